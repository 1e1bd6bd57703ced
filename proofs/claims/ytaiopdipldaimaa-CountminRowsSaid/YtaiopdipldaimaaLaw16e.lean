/-
  CountminRows: the estimate by the rows alone is that of the sketch, and no counter exceeds the whole weight; the walk. No conditions beyond those of the statement.
-/
import Derived.Test.YtaiopdipldaimaaLaw16
import Derived.Test.YtaiopdipldaimaaCmT
import Derived.Test.YtaiopdipldaimaaLaw16b
import Derived.Test.YtaiopdipldaimaaShort
import Derived.Deep.RegionHeld3
set_option linter.unusedVariables false
set_option linter.unusedSimpArgs false
namespace Go.Proofs.Ytaiopdipldaimaa
open Go.RowKit

namespace countminRows
/-- between two additions -/
def Rel (w : World) (lo hi gd g d n : Nat) (zs : List Int) (seed : Int) (bs : Nat → Nat) (bt ct : Nat) (b k : Nat) (wr : World) : Prop :=
  ∃ (R : Cmp.Rows) (T : Int), Sk wr lo hi g d n R zs seed T bs bt ct ∧ T ≤ k * 65536 ∧ IsDeck wr w.heap.size gd ∧ Blk wr b 24 (zs.map (.int .u64)).toArray ∧ Keeps (fun _ => False) w wr
set_option maxRecDepth 100000 in
set_option maxHeartbeats 2000000 in
theorem walk (w : World) (dep : Int) (p0 : 0 ≤ dep) (p1 : dep < 256) (wid : Int) (q0 : 0 ≤ wid) (q1 : wid < 256)
    (A0 : Option Addr) (n0 c0 : Nat) (dz : List Int) (hr0 : Rd w w.heap.size A0 1 n0 (dz.map (.int .i64))) (hz : ∀ z ∈ dz, -9223372036854775808 ≤ z ∧ z < 9223372036854775808) (hn0 : n0 * 8 ≤ 140737488351232) (hc0 : n0 ≤ c0)
    (A1 : Option Addr) (n1 c1 : Nat) (ws : List Int) (hr1 : Rd w w.heap.size A1 1 n1 (ws.map (.int .u16))) (hw : ∀ z ∈ ws, 0 ≤ z ∧ z < 65536) (hn1 : n1 * 2 ≤ 140737488351232) (hc1 : n1 ≤ c1)
    (seed : Int) (s0 : 0 ≤ seed) (s1 : seed < 18446744073709551616) :
    Calls Try.prog 12 #[.int .u8 dep, .int .u8 wid, .slice A0 n0 c0, .slice A1 n1 c1, .int .u64 seed] w fun e w' => e = .returned (.bool true) ∧ Below w.heap.size w w' := by
  have HD := hide (new_deck A0 n0 c0 dz w.heap.size w (Nat.le_refl _) hr0 hz (by omega))
  have HR1 := hide hr1
  have HW := hide hw
  have hwl : ws.length = n1 := by simpa using hr1.1
  have HWL := hide hwl
  clear hr0 hr1 hw hz hwl
  go_enter Try.func12, Try.ntmps12
  go_wp2_with fail
  refine HD.out.mono ?_
  rintro e w1 ⟨rfl, hd1, k1⟩
  have K1 := hide k1
  clear k1 HD
  go_wp2_with fail
  refine (table_any w.heap.size _ _ hd1).mono ?_
  rintro e w2 ⟨b, zs, rfl, hzl, hzb, hb, hbs, hd2, k2⟩
  have K2 := hide (K1.out.step k2 (fun j hj h => by omega))
  have HZL := hide hzl
  have HB := hide hb
  have HZB := hide hzb
  have hgd := hd2.lt
  have hb2 : b < w2.heap.size := HB.out.lt
  have hbg : w.heap.size < b := by have := hd1.lt; omega
  clear hzl hzb hb k2 hd1
  obtain ⟨d, hd⟩ : ∃ d : Nat, 1 + dep % 4 = (d : Int) := ⟨(1 + dep % 4).toNat, by omega⟩
  obtain ⟨n, hn⟩ : ∃ n : Nat, 1 + wid % 20 = (n : Int) := ⟨(1 + wid % 20).toNat, by omega⟩
  have hdb : 1 ≤ d ∧ d ≤ 4 := by omega
  have hnb : 1 ≤ n ∧ n ≤ 256 := by omega
  have HDD := hide hd
  have HNN := hide hn
  clear hd hn
  go_wp2_with fail
  rw [HDD.out, HNN.out]
  refine (new_ok (c := 16) d n hdb hnb seed s0 s1 zs HZB.out (Blk.rd HB.out (by simp [HZL.out]))).mono ?_
  rintro e w3 ⟨g, bs, bt, ct, rfl, sk, hgt, k3⟩
  have HGT := hide hgt
  have hbase : w.heap.size ≤ w2.heap.size := K2.out.size
  have hrel0 : Rel w w2.heap.size w3.heap.size w.heap.size g d n zs seed bs bt ct b 0 w3 :=
    ⟨_, 0, sk, by omega, hd2.kept k3 (fun h => h) (fun _ _ h => h), HB.out.kept k3 (fun h => h), K2.out.trans k3⟩
  have HREL := hide hrel0
  clear sk k3 hrel0 K1 K2 HB hgt hd2
  go_wp2_with fail
  go_loopw [15] (fun i wr => ∃ k : Nat, k ≤ n1 ∧ k ≤ 50 ∧ i = .int .i64 k ∧ Rel w w2.heap.size w3.heap.size w.heap.size g d n zs seed bs bt ct b k wr) (fun i _ => n1 - (intOf i).toNat)
  case atStart => exact ⟨0, by omega, by omega, rfl, HREL.out⟩
  case round =>
    obtain ⟨k, hk, hk5, rfl, hrel⟩ := hrel
    clear HREL
    by_cases hlt : k < n1
    · by_cases hlt2 : k < 50
      · obtain ⟨R, T, sk, hT, dk, hbz, kp⟩ := hrel
        obtain ⟨b1, off1, rfl, hb1, hcc⟩ := (HR1.out.kept kp (fun _ _ h => h)).2 (by omega)
        obtain ⟨x, hx, x0, x1⟩ : ∃ x, wr.cell? ⟨b1, off1 + k, none⟩ = some (.int .u16 x) ∧ 0 ≤ x ∧ x < 65536 := by
          have h1 := HWL.out
          have h2 := HW.out (ws.getD k 0) (by rw [List.getD, List.getElem?_eq_getElem (by omega)]; simp)
          exact ⟨ws.getD k 0, hcc k _ (by simp [List.getD, show k < ws.length by omega]), h2.1, h2.2⟩
        have hkI : (k : Int) < (n1 : Int) := by omega
        have tt := sk.tt
        have SK := hide sk
        have KP := hide kp
        have HBZ := hide hbz
        have ew0 : IntKind.u64.wrap x = x := by rw [IntKind.wrap_u64]; omega
        have ew : IntKind.u64.wrap (1 + x) = 1 + x := by rw [IntKind.wrap_u64]; omega
        clear sk kp hcc hbz
        go_wp2_with fail
        go_region_with ((first
          | (go_at_call 17; refine (short_any _ _ _ (by first | assumption | exact IsDeck.drew (by assumption))).mono ?_; rintro e w5 ⟨s, rfl, s2, s3, hd5, k5⟩; have hx5 := k5.cell_some (p := ⟨b1, off1 + k, none⟩) (v := .int .u16 x) (by exact hx) (fun h => by have : b1 = w.heap.size := h; omega); have SK5 := hide ((SK.out.kept (S := fun _ => False) (Keeps.refl _ _).drew (fun _ _ _ h => h)).kept k5 (fun b h1 h2 e => by have h3 : b = w.heap.size := e; omega)); have KP5 := hide (KP.out.drew.step k5 (fun b h1 e => by omega)); have HBZ5 := hide (HBZ.out.drew.kept k5 (fun e => by omega)))
          | (go_at_call 18; refine (add_any SK5.out HGT.out _ (by omega) (1 + x) (by omega) (by omega)).mono ?_; rintro e w6 ⟨rfl, k6, sk6⟩)))
        all_goals
          have hE : Cmp.addE s.data.toList (1 + x) T = 0 := by
            unfold Cmp.addE
            rw [if_neg (fun h => by have h2 : s.size = 0 := by { have h3 := congrArg List.length h; simpa using h3 }; omega), if_neg (by omega), if_pos (by omega)]
          rw [hE] at sk6
          simp only [if_true] at sk6
          have SK6 := hide sk6
          have dk6 := hd5.kept k6 (fun h => by omega) (fun b hb h => by omega)
          have HB6 := hide (HBZ5.out.kept k6 (fun h => by omega))
          have K6 := hide (KP5.out.step k6 (fun b h1 h => by omega))
          clear hE sk6 k6 k5 hd5 dk
          go_wp2_with fail
          go_roundw
          case rel => exact ⟨k + 1, by omega, by omega, by go_num, _, _, SK6.out, by omega, dk6, HB6.out, K6.out⟩
          case measure => simp [intOf]; omega
      ·
        obtain ⟨R, T, sk, hT, dk, hbz, kp⟩ := hrel
        have SK := hide sk
        have KP := hide kp
        have hbz' := hide hbz
        clear sk kp hbz
        go_wp2_with fail
        refine (rows_rel SK.out).mono ?_
        rintro e w5 ⟨_, rfl, hcr⟩
        have hmade := hcr.done SK.out.fine SK.out.tt.2
        obtain ⟨C, cc, F, rfl, oc, hrow, k5⟩ := hcr
        obtain ⟨r1, r2⟩ : Rd w5 w5.heap.size C 1 d ((List.range d).map fun j => .slice (F j).1 (F j).2.1 (F j).2.2.1) ∧ RowsRd w5 w5.heap.size .u64 d F := by
          refine ⟨oc.rd (by omega), fun j hj => ?_⟩
          obtain ⟨g1, g2, g3, g4, g5⟩ := hrow j hj
          rw [g2]
          exact ⟨by rw [g1]; exact g5.rd (by omega), fine_wf SK.out.fine SK.out.tt.2 j hj, g3, g4⟩
        have r3 : ∀ i, i < d → (F i).2.1 = n ∧ (F i).2.2.2 = R.getD i [] := fun i hi => ⟨(hrow i hi).1, (hrow i hi).2.1⟩
        have HOC := hide oc
        have HROW := hide hrow
        clear hmade oc hrow
        have SK5 := hide (SK.out.kept k5 (fun _ _ _ h => h))
        have dk5 := dk.kept k5 (fun h => h) (fun _ _ h => h)
        have HZ5 := hide (hbz'.out.kept k5 (fun h => h))
        have K5 := hide (KP.out.trans k5)
        have RA := hide (RowsAt.mk r1 r2)
        have R3 := hide r3
        have HL : Hid (Cmp.rowsL F d = R) := by
          show _ = _
          have h1 := SK.out.fine.1
          unfold Cmp.rowsL
          refine List.ext_getElem (by simp [h1]) (fun j h2 h3 => ?_)
          simp only [List.getElem_map, List.getElem_range]
          rw [(r3 j (by omega)).2]
          simp [List.getD, h3]
        clear r1 r2 r3 k5
        go_wp2_with fail
        go_loopw [70] (fun i wr => ∃ k : Nat, k ≤ d ∧ i = .int .i64 k ∧ ∃ nq, wr = w5.drewN nq) (fun i _ => d - (intOf i).toNat)
        case atStart => exact ⟨0, by omega, rfl, 0, rfl⟩
        case round =>
          obtain ⟨j, hj, rfl, q0, rfl⟩ := hrel
          by_cases hjd : j < d
          · obtain ⟨bo, off, rfl, _, hcc⟩ := RA.out.out.2 (by omega)
            have hx := hcc j (.slice (F j).1 (F j).2.1 (F j).2.2.1) (by simp [hjd])
            obtain ⟨e1, e2⟩ := R3.out j hjd
            obtain ⟨rr1, rr2, rr3, rr4⟩ := RA.out.rows j hjd
            rw [e1] at hx rr1
            have hle : ∀ z ∈ (F j).2.2.2, 0 ≤ z ∧ z ≤ T := by
              rw [e2]
              intro z hz
              obtain ⟨m, hm, rfl⟩ := List.getElem_of_mem hz
              have := SK.out.fine.2.2 j m
              unfold Cmp.cell at this
              rw [List.getD, List.getElem?_eq_getElem hm] at this
              simpa using this
            generalize (F j).2.2.2 = ys at *
            generalize (F j).1 = aj at *
            generalize (F j).2.2.1 = cj at *
            have HY := hide rr1
            have HLE := hide hle
            have hjI : (j : Int) < (d : Int) := by omega
            have hbn : ((n : Int) != 1 + wid % 20) = false := by rw [HNN.out]; simp
            clear hcc e1 e2 rr1 rr2 rr3 rr4 hle
            go_wp2_with fail
            go_loopw [83] (fun i wr => ∃ k : Nat, k ≤ n ∧ i = .int .i64 k ∧ ∃ nq, wr = w5.drewN nq) (fun i _ => n - (intOf i).toNat)
            case atStart => exact ⟨0, by omega, rfl, q0, rfl⟩
            case round =>
              obtain ⟨m, hm, rfl, q1, rfl⟩ := hrel
              by_cases hmn : m < n
              · have hyl : ys.length = n := by simpa using HY.out.1
                obtain ⟨b2, off2, rfl, _, hc2⟩ := HY.out.2 (by omega)
                have hy := hc2 m (.int .u64 (ys.getD m 0)) (by simp [List.getD, show m < ys.length by omega])
                have hyb := HLE.out (ys.getD m 0) (by rw [List.getD, List.getElem?_eq_getElem (by omega)]; simp)
                generalize ys.getD m 0 = y at *
                have HTOT := hide (fun q => total_any (SK5.out.drewN q))
                have hmI : (m : Int) < (n : Int) := by omega
                clear hc2 hyl
                go_wp2_with fail
                refine (HTOT.out _).mono ?_
                rintro e w6 ⟨rfl, rfl⟩
                go_wp2_with fail
                go_roundw
                case rel => exact ⟨m + 1, by omega, by go_num, _, rfl⟩
                case measure => simp [intOf]; omega
              · go_wp2_with fail
                go_roundw
                case rel => exact ⟨j + 1, by omega, by go_num, _, rfl⟩
                case measure => simp [intOf]; omega
          · go_wp2_with fail
            refine (short_any _ _ _ (dk5.kept (S := fun _ => False) ((Keeps.refl _ _).drewN q0) (fun h => h) (fun _ _ h => h))).mono ?_
            rintro e w6 ⟨s, rfl, s2, s3, dk6, k6⟩
            have hkk := (Keeps.refl (fun _ => False) w5).drewN q0
            have SK6 := hide ((SK5.out.drewN q0).kept k6 (fun b h1 h2 e => by have h3 : b = w.heap.size := e; omega))
            have KP6 := hide ((K5.out.drewN q0).step k6 (fun b h1 e => by omega))
            have hB5 := K5.out.size
            have hws := KP.out.size
            have RA6 : Hid (RowsAt w6 w6.heap.size C d F) := by
              have hgd : ∀ b, wr.heap.size ≤ b → ¬ b = w.heap.size := fun b hb e => by have := dk.lt; omega
              refine ⟨((HOC.out.kept hkk (fun _ _ h => h)).kept k6 (fun b hb => hgd b (HOC.out.inB hb).1)).rd (by omega), fun j hj => ?_⟩
              obtain ⟨g1, g2, g3, g4, g5⟩ := HROW.out j hj
              rw [g2]
              exact ⟨by rw [g1]; exact ((g5.kept hkk (fun _ _ h => h)).kept k6 (fun b hb => hgd b (g5.inB hb).1)).rd (by omega), fine_wf SK.out.fine SK.out.tt.2 j hj, g3, g4⟩
            have hlt6 := HZ5.out.lt
            have TT6 := hide ((((HZ5.out.drewN q0).kept k6 (fun e => by omega)).rd (show (zs.map (Value.int .u64)).length = 16 * 1 by simp [HZL.out])))
            have hsd := SK.out.sd
            have F1 := hide (of_any (c0 := cc) (ct := 16) RA6.out.out RA6.out.rows (by omega) TT6.out HZB.out seed hsd.1 hsd.2 s (by omega))
            have hv : Cmp.ofV (Cmp.rowsL F d) zs seed s.data.toList = Cmp.least R zs seed s.data.toList d := by
              rw [HL.out]
              unfold Cmp.ofV
              have := SK.out.fine.1
              rw [if_neg (by have := HZL.out; omega), this]
            rw [hv] at F1
            have F2 := hide (fun q => estimate_any (SK6.out.drewN q) s (by omega))
            generalize Cmp.least R zs seed s.data.toList d = v at *
            have hbd : ((d : Int) == 1 + dep % 4) = true := by rw [HDD.out]; simp
            clear hv dk5 dk6 k6 hkk
            go_wp2_with fail
            refine F1.out.mono ?_
            rintro e w7 ⟨rfl, q2, rfl⟩
            go_wp2_with fail
            refine (F2.out _).mono ?_
            rintro e w7 ⟨rfl, q3, rfl⟩
            go_wp2_with fail
            refine (awake16 _).mono ?_
            rintro e w8 ⟨rfl, k8⟩
            have K8 := hide (((KP6.out.drewN _).trans k8))
            clear k8
            go_wp2_with fail
            go_ret
            exact ⟨rfl, K8.out.done⟩
    ·
      obtain ⟨R, T, sk, hT, dk, hbz, kp⟩ := hrel
      have SK := hide sk
      have KP := hide kp
      have hbz' := hide hbz
      clear sk kp hbz
      go_wp2_with fail
      refine (rows_rel SK.out).mono ?_
      rintro e w5 ⟨_, rfl, hcr⟩
      have hmade := hcr.done SK.out.fine SK.out.tt.2
      obtain ⟨C, cc, F, rfl, oc, hrow, k5⟩ := hcr
      obtain ⟨r1, r2⟩ : Rd w5 w5.heap.size C 1 d ((List.range d).map fun j => .slice (F j).1 (F j).2.1 (F j).2.2.1) ∧ RowsRd w5 w5.heap.size .u64 d F := by
        refine ⟨oc.rd (by omega), fun j hj => ?_⟩
        obtain ⟨g1, g2, g3, g4, g5⟩ := hrow j hj
        rw [g2]
        exact ⟨by rw [g1]; exact g5.rd (by omega), fine_wf SK.out.fine SK.out.tt.2 j hj, g3, g4⟩
      have r3 : ∀ i, i < d → (F i).2.1 = n ∧ (F i).2.2.2 = R.getD i [] := fun i hi => ⟨(hrow i hi).1, (hrow i hi).2.1⟩
      have HOC := hide oc
      have HROW := hide hrow
      clear hmade oc hrow
      have SK5 := hide (SK.out.kept k5 (fun _ _ _ h => h))
      have dk5 := dk.kept k5 (fun h => h) (fun _ _ h => h)
      have HZ5 := hide (hbz'.out.kept k5 (fun h => h))
      have K5 := hide (KP.out.trans k5)
      have RA := hide (RowsAt.mk r1 r2)
      have R3 := hide r3
      have HL : Hid (Cmp.rowsL F d = R) := by
        show _ = _
        have h1 := SK.out.fine.1
        unfold Cmp.rowsL
        refine List.ext_getElem (by simp [h1]) (fun j h2 h3 => ?_)
        simp only [List.getElem_map, List.getElem_range]
        rw [(r3 j (by omega)).2]
        simp [List.getD, h3]
      clear r1 r2 r3 k5
      go_wp2_with fail
      go_loopw [70] (fun i wr => ∃ k : Nat, k ≤ d ∧ i = .int .i64 k ∧ ∃ nq, wr = w5.drewN nq) (fun i _ => d - (intOf i).toNat)
      case atStart => exact ⟨0, by omega, rfl, 0, rfl⟩
      case round =>
        obtain ⟨j, hj, rfl, q0, rfl⟩ := hrel
        by_cases hjd : j < d
        · obtain ⟨bo, off, rfl, _, hcc⟩ := RA.out.out.2 (by omega)
          have hx := hcc j (.slice (F j).1 (F j).2.1 (F j).2.2.1) (by simp [hjd])
          obtain ⟨e1, e2⟩ := R3.out j hjd
          obtain ⟨rr1, rr2, rr3, rr4⟩ := RA.out.rows j hjd
          rw [e1] at hx rr1
          have hle : ∀ z ∈ (F j).2.2.2, 0 ≤ z ∧ z ≤ T := by
            rw [e2]
            intro z hz
            obtain ⟨m, hm, rfl⟩ := List.getElem_of_mem hz
            have := SK.out.fine.2.2 j m
            unfold Cmp.cell at this
            rw [List.getD, List.getElem?_eq_getElem hm] at this
            simpa using this
          generalize (F j).2.2.2 = ys at *
          generalize (F j).1 = aj at *
          generalize (F j).2.2.1 = cj at *
          have HY := hide rr1
          have HLE := hide hle
          have hjI : (j : Int) < (d : Int) := by omega
          have hbn : ((n : Int) != 1 + wid % 20) = false := by rw [HNN.out]; simp
          clear hcc e1 e2 rr1 rr2 rr3 rr4 hle
          go_wp2_with fail
          go_loopw [83] (fun i wr => ∃ k : Nat, k ≤ n ∧ i = .int .i64 k ∧ ∃ nq, wr = w5.drewN nq) (fun i _ => n - (intOf i).toNat)
          case atStart => exact ⟨0, by omega, rfl, q0, rfl⟩
          case round =>
            obtain ⟨m, hm, rfl, q1, rfl⟩ := hrel
            by_cases hmn : m < n
            · have hyl : ys.length = n := by simpa using HY.out.1
              obtain ⟨b2, off2, rfl, _, hc2⟩ := HY.out.2 (by omega)
              have hy := hc2 m (.int .u64 (ys.getD m 0)) (by simp [List.getD, show m < ys.length by omega])
              have hyb := HLE.out (ys.getD m 0) (by rw [List.getD, List.getElem?_eq_getElem (by omega)]; simp)
              generalize ys.getD m 0 = y at *
              have HTOT := hide (fun q => total_any (SK5.out.drewN q))
              have hmI : (m : Int) < (n : Int) := by omega
              clear hc2 hyl
              go_wp2_with fail
              refine (HTOT.out _).mono ?_
              rintro e w6 ⟨rfl, rfl⟩
              go_wp2_with fail
              go_roundw
              case rel => exact ⟨m + 1, by omega, by go_num, _, rfl⟩
              case measure => simp [intOf]; omega
            · go_wp2_with fail
              go_roundw
              case rel => exact ⟨j + 1, by omega, by go_num, _, rfl⟩
              case measure => simp [intOf]; omega
        · go_wp2_with fail
          refine (short_any _ _ _ (dk5.kept (S := fun _ => False) ((Keeps.refl _ _).drewN q0) (fun h => h) (fun _ _ h => h))).mono ?_
          rintro e w6 ⟨s, rfl, s2, s3, dk6, k6⟩
          have hkk := (Keeps.refl (fun _ => False) w5).drewN q0
          have SK6 := hide ((SK5.out.drewN q0).kept k6 (fun b h1 h2 e => by have h3 : b = w.heap.size := e; omega))
          have KP6 := hide ((K5.out.drewN q0).step k6 (fun b h1 e => by omega))
          have hB5 := K5.out.size
          have hws := KP.out.size
          have RA6 : Hid (RowsAt w6 w6.heap.size C d F) := by
            have hgd : ∀ b, wr.heap.size ≤ b → ¬ b = w.heap.size := fun b hb e => by have := dk.lt; omega
            refine ⟨((HOC.out.kept hkk (fun _ _ h => h)).kept k6 (fun b hb => hgd b (HOC.out.inB hb).1)).rd (by omega), fun j hj => ?_⟩
            obtain ⟨g1, g2, g3, g4, g5⟩ := HROW.out j hj
            rw [g2]
            exact ⟨by rw [g1]; exact ((g5.kept hkk (fun _ _ h => h)).kept k6 (fun b hb => hgd b (g5.inB hb).1)).rd (by omega), fine_wf SK.out.fine SK.out.tt.2 j hj, g3, g4⟩
          have hlt6 := HZ5.out.lt
          have TT6 := hide ((((HZ5.out.drewN q0).kept k6 (fun e => by omega)).rd (show (zs.map (Value.int .u64)).length = 16 * 1 by simp [HZL.out])))
          have hsd := SK.out.sd
          have F1 := hide (of_any (c0 := cc) (ct := 16) RA6.out.out RA6.out.rows (by omega) TT6.out HZB.out seed hsd.1 hsd.2 s (by omega))
          have hv : Cmp.ofV (Cmp.rowsL F d) zs seed s.data.toList = Cmp.least R zs seed s.data.toList d := by
            rw [HL.out]
            unfold Cmp.ofV
            have := SK.out.fine.1
            rw [if_neg (by have := HZL.out; omega), this]
          rw [hv] at F1
          have F2 := hide (fun q => estimate_any (SK6.out.drewN q) s (by omega))
          generalize Cmp.least R zs seed s.data.toList d = v at *
          have hbd : ((d : Int) == 1 + dep % 4) = true := by rw [HDD.out]; simp
          clear hv dk5 dk6 k6 hkk
          go_wp2_with fail
          refine F1.out.mono ?_
          rintro e w7 ⟨rfl, q2, rfl⟩
          go_wp2_with fail
          refine (F2.out _).mono ?_
          rintro e w7 ⟨rfl, q3, rfl⟩
          go_wp2_with fail
          refine (awake16 _).mono ?_
          rintro e w8 ⟨rfl, k8⟩
          have K8 := hide (((KP6.out.drewN _).trans k8))
          clear k8
          go_wp2_with fail
          go_ret
          exact ⟨rfl, K8.out.done⟩
end countminRows
end Go.Proofs.Ytaiopdipldaimaa
