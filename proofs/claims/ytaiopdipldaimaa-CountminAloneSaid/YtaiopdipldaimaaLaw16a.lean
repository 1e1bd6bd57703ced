/-
  CountminAlone: with one key its estimate is its weight, and an estimate never falls; the walk. No conditions beyond those of the statement.
-/
import Derived.Test.YtaiopdipldaimaaLaw16
set_option linter.unusedVariables false
set_option linter.unusedSimpArgs false
namespace Go.Proofs.Ytaiopdipldaimaa
open Go.RowKit

namespace countminAlone
/-- between two rounds -/
def Rel (w : World) (lo hi g : Nat) (zs : List Int) (seed : Int) (bs : Nat → Nat) (bt ct : Nat) (k : Nat) (f last : Value) (wr : World) : Prop :=
  ∃ (R : Cmp.Rows) (T L : Int), f = .int .u64 T ∧ last = .int .u64 L ∧ Sk wr lo hi g 2 7 R zs seed T bs bt ct ∧ T ≤ k * 65536 ∧ 0 ≤ L ∧ L ≤ T ∧ L ≤ Cmp.least R zs seed [111, 116, 104, 101, 114] 2 ∧
    Cmp.Over R zs seed 2 7 (fun key => if key = [111, 110, 108, 121] then T else 0) ∧ Keeps (fun _ => False) w wr
set_option maxRecDepth 100000 in
set_option maxHeartbeats 1000000 in
theorem walk (w : World) (A0 : Option Addr) (n0 c0 : Nat) (dz : List Int) (hr0 : Rd w w.heap.size A0 1 n0 (dz.map (.int .i64))) (hz : ∀ z ∈ dz, -9223372036854775808 ≤ z ∧ z < 9223372036854775808) (hn0 : n0 * 8 ≤ 140737488351232) (hc0 : n0 ≤ c0)
    (A1 : Option Addr) (n1 c1 : Nat) (ws : List Int) (hr1 : Rd w w.heap.size A1 1 n1 (ws.map (.int .u16))) (hw : ∀ z ∈ ws, 0 ≤ z ∧ z < 65536) (hn1 : n1 * 2 ≤ 140737488351232) (hc1 : n1 ≤ c1)
    (seed : Int) (s0 : 0 ≤ seed) (s1 : seed < 18446744073709551616) :
    Calls Try.prog 4 #[.slice A0 n0 c0, .slice A1 n1 c1, .int .u64 seed] w fun e w' => e = .returned (.bool true) ∧ Below w.heap.size w w' := by
  have HD := hide (new_deck A0 n0 c0 dz w.heap.size w (Nat.le_refl _) hr0 hz (by omega))
  have HR1 := hide hr1
  have HW := hide hw
  have hwl : ws.length = n1 := by simpa using hr1.1
  have HWL := hide hwl
  clear hr0 hr1 hw hz hwl
  go_enter Try.func4, Try.ntmps4
  go_wp2_with fail
  refine HD.out.mono ?_
  rintro e w1 ⟨rfl, hd1, k1⟩
  have K1 := hide k1
  clear k1 HD
  go_wp2_with fail
  refine (table_any w.heap.size _ _ hd1).mono ?_
  rintro e w2 ⟨b, zs, rfl, hzl, hzb, hb, hbs, hd2, k2⟩
  have hnew := new_ok (c := 16) 2 7 (by omega) (by omega) seed s0 s1 zs hzb (Blk.rd hb (by simp [hzl]))
  rw [show ((2 : Nat) : Int) = 2 from rfl, show ((7 : Nat) : Int) = 7 from rfl] at hnew
  have HN := hide hnew
  have K2 := hide (K1.out.step k2 (fun j hj h => by omega))
  clear hnew hzl hzb hb hd2 k2 hd1
  go_wp2_with fail
  refine HN.out.mono ?_
  rintro e w3 ⟨g, bs, bt, ct, rfl, sk, hgt, k3⟩
  have HGT := hide hgt
  have hbase : w.heap.size ≤ w2.heap.size := K2.out.size
  have hrel0 : Rel w w2.heap.size w3.heap.size g zs seed bs bt ct 0 (.int .u64 0) (.int .u64 0) w3 :=
    ⟨_, 0, 0, rfl, rfl, sk, by omega, by omega, by omega, (Cmp.least_bd sk.fine (by omega) (by omega)).1, fun key i hi => by simpa using (sk.fine.2.2 i _).1, K2.out.trans k3⟩
  have HREL := hide hrel0
  clear sk k3 hrel0 HN K1 K2 hgt
  go_wp2_with fail
  go_loopw [10, 11, 12] (fun f last i wr => ∃ k : Nat, k ≤ n1 ∧ k ≤ 50 ∧ i = .int .i64 k ∧ Rel w w2.heap.size w3.heap.size g zs seed bs bt ct k f last wr) (fun _ _ i _ => n1 - (intOf i).toNat)
  case atStart => exact ⟨0, by omega, by omega, rfl, HREL.out⟩
  case round =>
    obtain ⟨k, hk, hk5, rfl, R, T, L, rfl, rfl, sk, hT, hL0, hLT, hL, ov, kp⟩ := hrel
    clear HREL
    by_cases hlt : k < n1
    · by_cases hlt2 : k < 50
      · obtain ⟨b1, off1, rfl, hb1, hcc⟩ := (HR1.out.kept kp (fun _ _ h => h)).2 (by omega)
        obtain ⟨x, hx, x0, x1⟩ : ∃ x, wr.cell? ⟨b1, off1 + k, none⟩ = some (.int .u16 x) ∧ 0 ≤ x ∧ x < 65536 := by
          have h1 := HWL.out
          have h2 := HW.out (ws.getD k 0) (by rw [List.getD, List.getElem?_eq_getElem (by omega)]; simp)
          exact ⟨ws.getD k 0, hcc k _ (by simp [List.getD, show k < ws.length by omega]), h2.1, h2.2⟩
        have tt := sk.tt
        have hadd := add_any sk HGT.out ⟨#[111, 110, 108, 121]⟩ (by decide) (1 + x) (by omega) (by omega)
        have hfin := sk.fine
        have hE : Cmp.addE [111, 110, 108, 121] (1 + x) T = 0 := by unfold Cmp.addE; rw [if_neg (by decide), if_neg (by omega), if_pos (by omega)]
        have hov := Cmp.over_raise (k := [111, 110, 108, 121]) (w := 1 + x) hfin (by omega) (by omega) (by omega) (by unfold Cmp.big; omega) ov
        have hmono := Cmp.least_mono (t := zs) (seed := seed) (k := [111, 110, 108, 121]) (v := Cmp.least R zs seed [111, 110, 108, 121] 2 + (1 + x)) hfin (by omega) (by omega) [111, 116, 104, 101, 114]
        unfold Added at hadd
        rw [show (ByteArray.mk #[111, 110, 108, 121]).data.toList = [111, 110, 108, 121] from rfl, hE] at hadd
        simp only [if_true] at hadd
        have HADD := hide hadd
        have HOV := hide hov
        have HKP := hide kp
        have hxI : (k : Int) < 50 := by omega
        obtain ⟨R', hR'⟩ : ∃ R', R' = Cmp.raise R zs seed [111, 110, 108, 121] (Cmp.least R zs seed [111, 110, 108, 121] 2 + (1 + x)) 2 := ⟨_, rfl⟩
        rw [← hR'] at HADD HOV hmono
        have hmono' := Int.le_trans hL hmono
        clear sk hcc hadd hfin hE ov hov kp hR' hmono hL
        go_wp2_with fail
        refine HADD.out.mono ?_
        rintro e w4 ⟨rfl, k4, sk4⟩
        have hest := estimate_any sk4 ⟨#[111, 116, 104, 101, 114]⟩ (by decide)
        rw [show (ByteArray.mk #[111, 116, 104, 101, 114]).data.toList = [111, 116, 104, 101, 114] from rfl] at hest
        have hlb := Cmp.least_bd (t := zs) (seed := seed) (k := [111, 116, 104, 101, 114]) sk4.fine (by omega) (by omega)
        obtain ⟨L', hL'⟩ : ∃ L', L' = Cmp.least R' zs seed [111, 116, 104, 101, 114] 2 := ⟨_, rfl⟩
        rw [← hL'] at hest hlb hmono'
        have HL' := hide hL'
        have HEST := hide hest
        have SK4 := hide sk4
        have hx4 := k4.cell_some hx (fun h => by have h2 : w2.heap.size ≤ b1 := h.1; omega)
        have K4 := hide (HKP.out.step k4 (fun b hb h => by omega))
        clear k4 sk4 hest hL' HKP hx HADD
        go_wp2_with fail
        refine HEST.out.mono ?_
        rintro e w5 ⟨rfl, nq, rfl⟩
        go_wp2_with fail
        go_roundw
        case rel => exact ⟨k + 1, by omega, by omega, by go_num, R', T + (1 + x), L', rfl, rfl, SK4.out.drewN nq, by omega, hlb.1, hlb.2, by rw [HL'.out]; exact Int.le_refl _, fun key i hi => by
            have := HOV.out key i hi
            by_cases hk : key = [111, 110, 108, 121]
            · simpa [hk] using this
            · simpa [hk] using this, K4.out.drewN nq⟩
        case measure => simp [intOf]; omega
      ·
        have hov := Cmp.over_least sk.fine (by omega) (by omega) (by unfold Cmp.big; have := sk.tt; omega) ov [111, 110, 108, 121]
        have hlb := Cmp.least_bd (t := zs) (seed := seed) (k := [111, 110, 108, 121]) sk.fine (by omega) (by omega)
        have hle : Cmp.least R zs seed [111, 110, 108, 121] 2 = T := by
          rw [if_pos rfl] at hov
          omega
        have hest := estimate_any sk ⟨#[111, 110, 108, 121]⟩ (by decide)
        rw [show (ByteArray.mk #[111, 110, 108, 121]).data.toList = [111, 110, 108, 121] from rfl, hle] at hest
        have HEST := hide hest
        have HTOT := hide (fun q => total_any (sk.drewN q))
        have HKP := hide kp
        have tt := sk.tt
        clear hov hlb hle hest sk ov kp hL
        go_wp2_with fail
        refine HEST.out.mono ?_
        rintro e w4 ⟨rfl, nq, rfl⟩
        go_wp2_with fail
        refine (HTOT.out _).mono ?_
        rintro e w5 ⟨rfl, rfl⟩
        go_wp2_with fail
        refine (awake16 _).mono ?_
        rintro e w6 ⟨rfl, k6⟩
        have K6 := hide ((HKP.out.drewN _).trans k6)
        clear k6
        go_wp2_with fail
        go_ret
        exact ⟨rfl, K6.out.done⟩
    ·
      have hov := Cmp.over_least sk.fine (by omega) (by omega) (by unfold Cmp.big; have := sk.tt; omega) ov [111, 110, 108, 121]
      have hlb := Cmp.least_bd (t := zs) (seed := seed) (k := [111, 110, 108, 121]) sk.fine (by omega) (by omega)
      have hle : Cmp.least R zs seed [111, 110, 108, 121] 2 = T := by
        rw [if_pos rfl] at hov
        omega
      have hest := estimate_any sk ⟨#[111, 110, 108, 121]⟩ (by decide)
      rw [show (ByteArray.mk #[111, 110, 108, 121]).data.toList = [111, 110, 108, 121] from rfl, hle] at hest
      have HEST := hide hest
      have HTOT := hide (fun q => total_any (sk.drewN q))
      have HKP := hide kp
      have tt := sk.tt
      clear hov hlb hle hest sk ov kp hL
      go_wp2_with fail
      refine HEST.out.mono ?_
      rintro e w4 ⟨rfl, nq, rfl⟩
      go_wp2_with fail
      refine (HTOT.out _).mono ?_
      rintro e w5 ⟨rfl, rfl⟩
      go_wp2_with fail
      refine (awake16 _).mono ?_
      rintro e w6 ⟨rfl, k6⟩
      have K6 := hide ((HKP.out.drewN _).trans k6)
      clear k6
      go_wp2_with fail
      go_ret
      exact ⟨rfl, K6.out.done⟩
end countminAlone
end Go.Proofs.Ytaiopdipldaimaa
