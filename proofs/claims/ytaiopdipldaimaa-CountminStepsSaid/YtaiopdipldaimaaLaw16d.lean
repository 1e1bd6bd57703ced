/-
  CountminSteps: counters, estimates and errors over any sequence of additions; the walk. No conditions beyond those of the statement.
-/
import Derived.Test.YtaiopdipldaimaaLaw16
import Derived.Test.YtaiopdipldaimaaCmS
import Derived.Test.YtaiopdipldaimaaCmT
import Derived.Test.YtaiopdipldaimaaShort
import Derived.Deep.RegionHeld3
set_option linter.unusedVariables false
set_option linter.unusedSimpArgs false
namespace Go.Proofs.Ytaiopdipldaimaa
open Go.RowKit

def Cmp.nR (R : Cmp.Rows) (zs : List Int) (seed : Int) (d : Nat) (T : Int) (k : List UInt8) (wt : Int) : Cmp.Rows := if Cmp.addE k wt T = 0 then Cmp.raise R zs seed k (Cmp.least R zs seed k d + wt) d else R
def Cmp.nT (T : Int) (k : List UInt8) (wt : Int) : Int := if Cmp.addE k wt T = 0 then T + wt else T
theorem add_n {w : World} {lo hi g d n : Nat} {R : Cmp.Rows} {zs : List Int} {seed total : Int} {bs : Nat → Nat} {bt ct : Nat} (h : Sk w lo hi g d n R zs seed total bs bt ct) (hgt : g ≠ bt) (s : ByteArray) (hs : s.size ≤ 140737488351232)
    (wt : Int) (w0 : 0 ≤ wt) (w1 : wt < 18446744073709551616) :
    Calls Try.prog 18 #[.pointer (some ⟨g, 0, none⟩), .string s, .int .u64 wt] w fun e w' => e = .returned (.int .i64 (Cmp.addE s.data.toList wt total)) ∧ Keeps (fun b => lo ≤ b ∧ b < hi) w w' ∧
      Sk w' lo hi g d n (Cmp.nR R zs seed d total s.data.toList wt) zs seed (Cmp.nT total s.data.toList wt) bs bt ct := add_any h hgt s hs wt w0 w1
theorem radd_n {w : World} {lo hi g d n : Nat} {R : Cmp.Rows} {zs : List Int} {seed total : Int} {A : Option Addr} {co : Nat} {bs : Nat → Nat} {bt ct : Nat} (h : RSk w lo hi g d n R zs seed total A co bs bt ct) (s : ByteArray) (hs : s.size ≤ 140737488351232)
    (wt : Int) (w0 : 0 ≤ wt) (w1 : wt < 18446744073709551616) :
    Calls Try.prog 34 #[.pointer (some ⟨g, 0, none⟩), .string s, .int .u64 wt] w fun e w' => e = .returned (.int .i64 (Cmp.addE s.data.toList wt total)) ∧ Keeps (fun b => lo ≤ b ∧ b < hi) w w' ∧
      RSk w' lo hi g d n (Cmp.nR R zs seed d total s.data.toList wt) zs seed (Cmp.nT total s.data.toList wt) A co bs bt ct := radd_sk h s hs wt w0 w1

namespace countminSteps
/-- between two rounds: both sketches have the same counters -/
def Rel (w wb : World) (lo mid hi gd g g2 d n : Nat) (zs : List Int) (seed : Int) (bs : Nat → Nat) (bt ct : Nat) (A : Option Addr) (co : Nat) (bs2 : Nat → Nat) (bt2 ct2 : Nat) (wr : World) : Prop :=
  ∃ (R : Cmp.Rows) (T : Int), Sk wr lo mid g d n R zs seed T bs bt ct ∧ RSk wr mid hi g2 d n R zs seed T A co bs2 bt2 ct2 ∧ IsDeck wr w.heap.size gd ∧ Keeps (fun _ => False) w wr
set_option maxRecDepth 100000 in
set_option maxHeartbeats 2000000 in
theorem walk (w : World) (dep : Int) (p0 : 0 ≤ dep) (p1 : dep < 256) (wid : Int) (q0 : 0 ≤ wid) (q1 : wid < 256)
    (A0 : Option Addr) (n0 c0 : Nat) (dz : List Int) (hr0 : Rd w w.heap.size A0 1 n0 (dz.map (.int .i64))) (hz : ∀ z ∈ dz, -9223372036854775808 ≤ z ∧ z < 9223372036854775808) (hn0 : n0 * 8 ≤ 140737488351232) (hc0 : n0 ≤ c0)
    (A1 : Option Addr) (n1 c1 : Nat) (ws : List Int) (hr1 : Rd w w.heap.size A1 1 n1 (ws.map (.int .u64))) (hw : ∀ z ∈ ws, 0 ≤ z ∧ z < 18446744073709551616) (hn1 : n1 * 8 ≤ 140737488351232) (hc1 : n1 ≤ c1)
    (seed : Int) (s0 : 0 ≤ seed) (s1 : seed < 18446744073709551616) :
    Calls Try.prog 8 #[.int .u8 dep, .int .u8 wid, .slice A0 n0 c0, .slice A1 n1 c1, .int .u64 seed] w fun e w' => e = .returned (.bool true) ∧ Below w.heap.size w w' := by
  have HD := hide (new_deck A0 n0 c0 dz w.heap.size w (Nat.le_refl _) hr0 hz (by omega))
  have HR1 := hide hr1
  have HW := hide hw
  have hwl : ws.length = n1 := by simpa using hr1.1
  have HWL := hide hwl
  clear hr0 hr1 hw hz hwl
  go_enter Try.func8, Try.ntmps8
  go_wp2_with fail
  refine HD.out.mono ?_
  rintro e w1 ⟨rfl, hd1, k1⟩
  have K1 := hide k1
  clear k1 HD
  go_wp2_with fail
  refine (table_any w.heap.size _ _ hd1).mono ?_
  rintro e w2 ⟨b, zs, rfl, hzl, hzb, hb, hbs, hd2, k2⟩
  have K2 := hide (K1.out.step k2 (fun j hj h => by omega))
  have HZL := hide hzl
  have HB := hide hb
  have HZB := hide hzb
  have hgd := hd2.lt
  clear hzl hzb hb k2 hd1
  obtain ⟨d, hd⟩ : ∃ d : Nat, 1 + dep % 4 = (d : Int) := ⟨(1 + dep % 4).toNat, by omega⟩
  obtain ⟨n, hn⟩ : ∃ n : Nat, 1 + wid % 12 = (n : Int) := ⟨(1 + wid % 12).toNat, by omega⟩
  have hdb : 1 ≤ d ∧ d ≤ 4 := by omega
  have hnb : 1 ≤ n ∧ n ≤ 256 := by omega
  have HDD := hide hd
  have HNN := hide hn
  clear hd hn
  go_wp2_with fail
  rw [HDD.out, HNN.out]
  refine (new_ok (c := 16) d n hdb hnb seed s0 s1 zs HZB.out (Blk.rd HB.out (by simp [HZL.out]))).mono ?_
  rintro e w3 ⟨g, bs, bt, ct, rfl, sk, hgt, k3⟩
  have HB3 := hide (HB.out.kept k3 (fun h => h))
  have HGT := hide hgt
  have SK3 := hide sk
  have hdk3 := hd2.kept k3 (fun h => h) (fun _ _ h => h)
  have K3 := hide (K2.out.trans k3)
  clear sk k3 hgt hd2
  go_wp2_with fail
  refine (rnew_ok (c := 16) d n hdb hnb seed s0 s1 zs HZB.out (Blk.rd HB3.out (by simp [HZL.out]))).mono ?_
  rintro e w4 ⟨g2, A, co, bs2, bt2, ct2, rfl, rsk, k4⟩
  have hbase : w.heap.size ≤ w2.heap.size := K2.out.size
  have hmid := K3.out.size
  have h24 : w2.heap.size ≤ w3.heap.size := by have := SK3.out.lo_g; omega
  have hdlt := hdk3.lt
  have hdge := hdk3.le
  have hrel0 : Rel w w2 w2.heap.size w3.heap.size w4.heap.size w.heap.size g g2 d n zs seed bs bt ct A co bs2 bt2 ct2 w4 :=
    ⟨_, 0, SK3.out.kept k4 (fun _ _ _ h => h), rsk, hdk3.kept k4 (fun h => h) (fun _ _ h => h), K3.out.trans k4⟩
  have HREL := hide hrel0
  clear rsk k4 hrel0 K1 K2 K3 SK3 HB HB3 hdk3
  go_wp2_with fail
  go_loopw [19] (fun i wr => ∃ k : Nat, k ≤ n1 ∧ k ≤ 50 ∧ i = .int .i64 k ∧ Rel w w2 w2.heap.size w3.heap.size w4.heap.size w.heap.size g g2 d n zs seed bs bt ct A co bs2 bt2 ct2 wr) (fun i _ => n1 - (intOf i).toNat)
  case atStart => exact ⟨0, by omega, by omega, rfl, HREL.out⟩
  case round =>
    obtain ⟨k, hk, hk5, rfl, hrel⟩ := hrel
    clear HREL
    by_cases hlt : k < n1
    · by_cases hlt2 : k < 50
      · obtain ⟨R, T, sk, rsk, dk, kp⟩ := hrel
        obtain ⟨b1, off1, rfl, hb1, hcc⟩ := (HR1.out.kept kp (fun _ _ h => h)).2 (by omega)
        obtain ⟨x, hx, x0, x1⟩ : ∃ x, wr.cell? ⟨b1, off1 + k, none⟩ = some (.int .u64 x) ∧ 0 ≤ x ∧ x < 18446744073709551616 := by
          have h1 := HWL.out
          have h2 := HW.out (ws.getD k 0) (by rw [List.getD, List.getElem?_eq_getElem (by omega)]; simp)
          exact ⟨ws.getD k 0, hcc k _ (by simp [List.getD, show k < ws.length by omega]), h2.1, h2.2⟩
        have hkI : (k : Int) < (n1 : Int) := by omega
        have SK := hide sk
        have RSK := hide rsk
        have KP := hide kp
        have hbx := wf_u64 (wf_bits .and .u64 x 31)
        clear sk rsk kp hcc
        go_wp2_with fail
        go_region_with ((go_at_call 17; refine (short_any _ _ _ (by first | assumption | exact IsDeck.drew (by assumption))).mono ?_; rintro e w5 ⟨s, rfl, s2, s3, hd5, k5⟩; have hx5 := k5.cell_some (p := ⟨b1, off1 + k, none⟩) (v := .int .u64 x) (by exact hx) (fun h => by have : b1 = w.heap.size := h; omega)))
        all_goals
          have SK5 := hide ((SK.out.kept (S := fun _ => False) (Keeps.refl _ _).drew (fun _ _ _ h => h)).kept k5 (fun b h1 h2 e => by have h3 : b = w.heap.size := e; omega))
          have RSK5 := hide ((RSK.out.kept (S := fun _ => False) (Keeps.refl _ _).drew (fun _ _ _ h => h)).kept k5 (fun b h1 h2 e => by have h3 : b = w.heap.size := e; omega))
          have KP5 := hide (KP.out.drew.step k5 (fun b h1 e => by omega))
          clear hx hx5 k5 dk KP SK RSK
          go_wp2_with fail
        all_goals
          refine (add_n SK5.out HGT.out _ (by first | omega | decide) _ (by omega) (by omega)).mono ?_
          rintro e w6 ⟨rfl, k6, sk6⟩
          have SK6 := hide sk6
          have RSK6 := hide (RSK5.out.kept k6 (fun b h1 h2 h3 => by omega))
          have dk6 := hd5.kept k6 (fun h => by omega) (fun b hb h => by omega)
          have KP6 := hide (KP5.out.step k6 (fun b h1 h => by omega))
          clear sk6 k6 hd5 KP5 SK5 RSK5
          go_wp2_with fail
          refine (radd_n RSK6.out _ (by first | omega | decide) _ (by omega) (by omega)).mono ?_
          rintro e w7 ⟨rfl, k7, rsk7⟩
          have SK7 := hide (SK6.out.kept k7 (fun b h1 h2 h3 => by omega))
          have RSK7 := hide rsk7
          have dk7 := dk6.kept k7 (fun h => by omega) (fun b hb h => by omega)
          have KP7 := hide (KP6.out.step k7 (fun b h1 h => by omega))
          clear rsk7 k7 dk6 KP6 SK6 RSK6
          have HTOT := hide (fun q => total_any (SK7.out.drewN q))
          obtain ⟨⟨y0, y1, y2, y3⟩, _⟩ := RSK7.out.cells
          go_wp2_with fail
          go_quiet ((first
            | (go_at_call 19; first | exact quiet_more (estimate_any (SK7.out.drewN _) _ (by first | omega | decide)) | exact quiet_add (estimate_any (SK7.out.drewN _) _ (by first | omega | decide)))
            | (go_at_call 35; first | exact quiet_more (restimate_any (RSK7.out.drewN _) _ (by first | omega | decide)) | exact quiet_add (restimate_any (RSK7.out.drewN _) _ (by first | omega | decide)))
            | (go_at_call 20; first | exact quiet_left (HTOT.out _) | exact quiet_add_left (HTOT.out _))))
          go_wp2_with fail
          go_roundw
          case rel => exact ⟨k + 1, by omega, by omega, by go_num, _, _, SK7.out.drewN _, RSK7.out.drewN _, dk7.kept (S := fun _ => False) ((Keeps.refl _ _).drewN _) (fun h => h) (fun _ _ h => h), KP7.out.drewN _⟩
          case measure => simp [intOf]; omega
      ·
        obtain ⟨R, T, sk, rsk, dk, kp⟩ := hrel
        have hfi := sk.fine
        have KP := hide kp
        have SKD := hide (sk.kept (S := fun _ => False) (Keeps.refl _ wr).drew (fun _ _ _ h => h))
        have RSKD := hide (rsk.kept (S := fun _ => False) (Keeps.refl _ wr).drew (fun _ _ _ h => h))
        obtain ⟨⟨x0, _, _, _⟩, _⟩ := rsk.cells
        obtain ⟨⟨xd0, _, _, _⟩, _⟩ := RSKD.out.cells
        clear sk rsk dk kp hfi
        go_wp2_with fail
        go_region_held3 (fun w' => w'.cell? ⟨g2, 0, none⟩ = some (.slice A d co)) (first | go_keep | assumption) (first
          | (go_at_call 33; refine (rows_any SKD.out).mono ?_; rintro e w5 ⟨C, cc, F, rfl, r1, r2, r3, k5⟩; have hS := k5.cell_some xd0 (fun h => h); have RS5 := hide (RSKD.out.kept k5 (fun _ _ _ h => h)); have R1 := hide r1; have R2 := hide r2; have R3 := hide r3; have K5 := hide k5; clear r1 r2 r3 k5)
          | (go_at_call 36; refine (sameRows_any d n F (rowsF bs2 n R) C A cc co _ _ _ R1.out (RS5.out.out.rd (by omega)) R2.out RS5.out.rowsRd (fun i hi => ⟨(R3.out i hi).1, rfl, (R3.out i hi).2⟩) (by omega) (by omega)).mono ?_; rintro e w6 ⟨rfl, nq, rfl⟩)
          | (go_at_call 21; refine (awake16 _).mono ?_; rintro e w7 ⟨rfl, k7⟩; have hS7 := k7.cell_some (p := ⟨g2, 0, none⟩) (by exact (RS5.out.drewN nq).cells.1.1) (fun h => h)))
        go_wp2_with fail
        go_ret
        exact ⟨rfl, (((KP.out.drew.trans K5.out).drewN nq).trans k7).done⟩
    ·
      obtain ⟨R, T, sk, rsk, dk, kp⟩ := hrel
      have hfi := sk.fine
      have KP := hide kp
      have SKD := hide (sk.kept (S := fun _ => False) (Keeps.refl _ wr).drew (fun _ _ _ h => h))
      have RSKD := hide (rsk.kept (S := fun _ => False) (Keeps.refl _ wr).drew (fun _ _ _ h => h))
      obtain ⟨⟨x0, _, _, _⟩, _⟩ := rsk.cells
      obtain ⟨⟨xd0, _, _, _⟩, _⟩ := RSKD.out.cells
      clear sk rsk dk kp hfi
      go_wp2_with fail
      go_region_held3 (fun w' => w'.cell? ⟨g2, 0, none⟩ = some (.slice A d co)) (first | go_keep | assumption) (first
        | (go_at_call 33; refine (rows_any SKD.out).mono ?_; rintro e w5 ⟨C, cc, F, rfl, r1, r2, r3, k5⟩; have hS := k5.cell_some xd0 (fun h => h); have RS5 := hide (RSKD.out.kept k5 (fun _ _ _ h => h)); have R1 := hide r1; have R2 := hide r2; have R3 := hide r3; have K5 := hide k5; clear r1 r2 r3 k5)
        | (go_at_call 36; refine (sameRows_any d n F (rowsF bs2 n R) C A cc co _ _ _ R1.out (RS5.out.out.rd (by omega)) R2.out RS5.out.rowsRd (fun i hi => ⟨(R3.out i hi).1, rfl, (R3.out i hi).2⟩) (by omega) (by omega)).mono ?_; rintro e w6 ⟨rfl, nq, rfl⟩)
        | (go_at_call 21; refine (awake16 _).mono ?_; rintro e w7 ⟨rfl, k7⟩; have hS7 := k7.cell_some (p := ⟨g2, 0, none⟩) (by exact (RS5.out.drewN nq).cells.1.1) (fun h => h)))
      go_wp2_with fail
      go_ret
      exact ⟨rfl, (((KP.out.drew.trans K5.out).drewN nq).trans k7).done⟩
end countminSteps
end Go.Proofs.Ytaiopdipldaimaa
