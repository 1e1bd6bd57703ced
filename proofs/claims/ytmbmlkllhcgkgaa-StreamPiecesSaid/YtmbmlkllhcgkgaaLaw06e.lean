/-
  StreamPieces: it does not matter how bytes are cut into pieces; the walk. No conditions beyond those of the statement.
-/
import Derived.Test.YtmbmlkllhcgkgaaLaw06b
import Derived.Test.YtmbmlkllhcgkgaaEv6
import Derived.Test.YtmbmlkllhcgkgaaSt2
import Derived.Deep.CutRange
import Derived.Deep.RegionHeld3
set_option linter.unusedVariables false
set_option linter.unusedSimpArgs false
namespace Go.Proofs.Ytmbmlkllhcgkgaa
open Go.RowKit
open Vp Stp

namespace streamPieces
/-- three pieces of a list of bytes, and what was fed before each -/
theorem cut3 (L : List UInt8) (i j : Nat) (hij : i ≤ j) (hj : j ≤ L.length) :
    ∃ (p : Nat → List UInt8) (Q : Nat → List UInt8), p 0 = L.take i ∧ p 1 = (L.drop i).take (j - i) ∧ p 2 = L.drop j ∧ Q 0 = [] ∧ (∀ r, r < 3 → Q (r + 1) = Q r ++ p r) ∧ Q 3 = L ∧ (∀ r, r ≤ 3 → (Q r).length ≤ L.length) := by
  have h3 : L.take i ++ (L.drop i).take (j - i) = L.take j := by rw [← List.take_add, show i + (j - i) = j from by omega]
  refine ⟨fun r => if r = 0 then L.take i else if r = 1 then (L.drop i).take (j - i) else L.drop j, fun r => if r = 0 then [] else if r = 1 then L.take i else if r = 2 then L.take j else L, rfl, rfl, rfl, rfl, ?_, rfl, ?_⟩
  · intro r hr
    obtain rfl | rfl | rfl : r = 0 ∨ r = 1 ∨ r = 2 := by omega
    · simp
    · simp [h3]
    · simp
  · intro r hr
    obtain rfl | rfl | rfl | rfl : r = 0 ∨ r = 1 ∨ r = 2 ∨ r = 3 := by omega
    all_goals simp
    all_goals omega

set_option maxRecDepth 100000 in
set_option maxHeartbeats 4000000 in
theorem main (w : World) (A1 : Option Addr) (n1 c1 : Nat) (zs : List Int) (hd : Rd w w.heap.size A1 1 n1 (zs.map (.int .i64))) (hz : ∀ z ∈ zs, -9223372036854775808 ≤ z ∧ z < 9223372036854775808) (hn1 : n1 ≤ 17592186043904)
    (A : Option Addr) (m c : Nat) (l : List UInt8) (hr : Rd w w.heap.size A 1 m (l.map by8)) (hl : l.length = m) (hm : m ≤ 140737488351232) (hmc : m ≤ c) (cut again : Int) (u0 : 0 ≤ cut) (u1 : cut < 65536) (v0 : 0 ≤ again) (v1 : again < 65536) :
    Calls Try.prog 3 #[.slice A1 n1 c1, .slice A m c, .int .u16 cut, .int .u16 again] w fun e w' => e = .returned (.bool true) ∧ Keeps (fun _ => False) w w' := by
  obtain ⟨A2, k, hk2, hkm, _, _, hsr, _, hmin, hsl⟩ := sub_min_k elem8 A m c 100 hmc
  have hr1 := hsr w _ _ hr
  rw [Nat.mul_one, ← List.map_take] at hr1
  have hkl : (l.take k).length = k := by rw [List.length_take]; omega
  generalize l.take k = b at *
  have HR := hide hr1
  have HBL := hide hkl
  have HB := hide (fun w' (hd' : Rd w' w'.heap.size A1 1 n1 (zs.map (.int .i64))) => bytes_any A1 n1 c1 zs w' hd' hz (by omega))
  have HD := hide hd
  clear hr hsr hr1 hkl hl hd hz
  rw [show ((100 : Nat) : Int) = 100 from rfl] at hmin
  have hb0 : (0 : Int) ≤ (m : Int) := by omega
  have hb1 : (m : Int) ≤ (c : Int) := by omega
  have hb2 : (0 : Int) ≤ (k : Int) := by omega
  go_enter Try.func3, Try.ntmps3
  go_wp2_with fail
  go_cut [9] from 9 to 26 (fun s9 wx => ∃ (A : Option Addr) (N c : Nat) (L : List UInt8), s9 = .slice A N c ∧ N ≤ 30100 ∧ Own wx w.heap.size 5 1 A N c (L.map by8) ∧ Keeps (fun _ => False) w wx)
  case first =>
    go_region_held3 (fun _ => True) (exact trivial) (first
      | (go_at_call 8; refine (HB.out _ (by first | exact HD.out.drew | exact HD.out)).mono ?_; rintro e w2 ⟨A3, n3, c3, l3, rfl, hn3, o3, k3⟩; (have K3 := hide (((Keeps.refl (fun _ => False) w).drew).trans k3)); have O3 := hide (o3.base_le (b := w.heap.size) (by simp)); have R3 := hide (HR.out.kept K3.out (fun _ _ h => h)); have hs3 := Keeps.size K3.out; clear o3 k3)
      | ((refine step_app _ elem8 (by rfl) (.tmp 20) (.tmp 25) (by rfl) w.heap.size _ (by rfl) O3.out _ (m := k) _ (by rfl) R3.out (by8_one _) (by simp only [maxLen]; omega) (by omega) hs3 ?_); intro A5 c5 w5 o5 k5 hA5; rw [← List.map_append] at o5; have O5 := hide o5; have K5 := hide (K3.out.step k5 (fun b hb h => by have := O3.out.inB h; omega)); clear o5 k5 hA5))
    all_goals
      trace "WAY"
      go_wp2_with fail
      go_meet
      exact ⟨A5, n3 + k, c5, l3 ++ b, rfl, by omega, O5.out, K5.out⟩
  case rest =>
  obtain ⟨A5, N, c5, L, rfl, hN, o5, k5⟩ := hcut
  have hLN : L.length = N := by simpa using o5.len
  have hNc := o5.le
  have i0 : 0 ≤ cut % ((N : Int) + 1) := Int.emod_nonneg _ (by omega)
  have i1 : cut % ((N : Int) + 1) ≤ N := by have := Int.emod_lt_of_pos cut (show (0 : Int) < (N : Int) + 1 by omega); omega
  have j0 : 0 ≤ again % ((N : Int) - cut % ((N : Int) + 1) + 1) := Int.emod_nonneg _ (by omega)
  have j1 : again % ((N : Int) - cut % ((N : Int) + 1) + 1) ≤ (N : Int) - cut % ((N : Int) + 1) := by
    have := Int.emod_lt_of_pos again (show (0 : Int) < (N : Int) - cut % ((N : Int) + 1) + 1 by omega); omega
  obtain ⟨q1, hq1⟩ : ∃ q, q = cut % ((N : Int) + 1) := ⟨_, rfl⟩
  rw [← hq1] at i0 i1 j0 j1
  obtain ⟨q2, hq2⟩ : ∃ q, q = again % ((N : Int) - q1 + 1) := ⟨_, rfl⟩
  rw [← hq2] at j0 j1
  have i0' : 0 ≤ cut % ((N : Int) + 1) := by rw [← hq1]; exact i0
  have i1' : cut % ((N : Int) + 1) ≤ N := by rw [← hq1]; exact i1
  have j0' : 0 ≤ again % ((N : Int) - cut % ((N : Int) + 1) + 1) := by rw [← hq1, ← hq2]; exact j0
  have j1' : again % ((N : Int) - cut % ((N : Int) + 1) + 1) ≤ (N : Int) - cut % ((N : Int) + 1) := by rw [← hq1, ← hq2]; exact j1
  obtain ⟨P1, s1, r1, _⟩ := sub_hi elem8 A5 N c5 .i64 q1 i0 i1 hNc
  obtain ⟨P2, s2, r2, _⟩ := sub_lh elem8 A5 N c5 .i64 .i64 q1 (q1 + q2) i0 (by omega) (by omega) hNc
  obtain ⟨P3, s3, r3, _⟩ := sub_lo elem8 A5 N c5 .i64 (q1 + q2) (by omega) (by omega) hNc
  obtain ⟨p, Q, hp0, hp1, hp2, hQ0, hQs, hQ3, hQl⟩ := cut3 L q1.toNat (q1 + q2).toNat (by omega) (by omega)
  have HQ1 := hide hq1
  have HQ2 := hide hq2
  have S1 := hide s1
  have S2 := hide s2
  have S3 := hide s3
  have hrd := o5.rd (by omega)
  have R1 := hide (r1 _ _ _ hrd)
  have R2 := hide (r2 _ _ _ hrd)
  have R3 := hide (r3 _ _ _ hrd)
  rw [Nat.mul_one, ← List.map_take, ← hp0] at R1
  rw [Nat.mul_one, Nat.mul_one, ← List.map_drop, ← List.map_take, ← hp1] at R2
  rw [Nat.mul_one, ← List.map_drop, ← hp2] at R3
  have HQ0 := hide hQ0
  have HQS := hide hQs
  have HQ3 := hide hQ3
  have HQL := hide hQl
  have HLN := hide hLN
  have K5 := hide k5
  have hs5 := k5.size
  have RL := hide hrd
  have hfl := feedL_chunks init L
  have hfd := Feed_any init good_init (by decide) none 0 0 0 _ (Rd.zero rfl) (Nat.zero_le _) L A5 N c5 _ hrd (Nat.le_refl _) (by omega) (by omega)
  generalize hFL : feedL init L = FL at hfd
  have HFL := hide hFL
  obtain ⟨⟨bL, skL, brL⟩, chL⟩ := FL
  dsimp only [init] at hfd
  have HFD := hide hfd
  clear hLN hq1 hq2 s1 s2 s3 r1 r2 r3 hp0 hp1 hp2 hQ0 hQs hQ3 hQl o5 k5 hrd hfd hFL hfl HB HD HR HBL
  go_wp2_with fail
  trace "FEED"
  refine HFD.out.mono ?_
  rintro e w6 ⟨A6, n6, c6, C6, m6, mc6, cells6, rfl, o6, oc6, ch6, k6⟩
  dsimp only at o6 ch6
  rw [show cut % ((N : Int) + 1) = q1 from HQ1.out.symm, show again % ((N : Int) - q1 + 1) = q2 from HQ2.out.symm]
  have K6 := hide (K5.out.trans k6)
  have OB6 := hide o6
  have OC6 := hide oc6
  have CH6 := hide ch6
  have PR1 := hide ((R1.out.kept k6 (fun b hb h => h)).more k6.size)
  have PR2 := hide ((R2.out.kept k6 (fun b hb h => h)).more k6.size)
  have PR3 := hide ((R3.out.kept k6 (fun b hb h => h)).more k6.size)
  have hs6 := K6.out.size
  have s1 := S1.out
  have s2 := S2.out
  have s3 := S3.out
  clear o6 oc6 ch6 k6 HFD R1 R2 R3 RL K5 i0' i1' j0' j1' hs5
  go_wp2_with fail
  trace "REGION 7"
  go_region
  trace "R7"
  go_wp2_with fail
  obtain ⟨w8, hw8⟩ : ∃ w8, w8 = (((w6.alloc (.cells #[.slice A6 n6 c6, .int .u64 skL, .bool brL] 28)).alloc (.cells #[.slice none 0 0, .int .u64 0, .bool false] 28)).alloc (.cells #[.slice P1 q1.toNat c5, .slice P2 ((q1 + q2).toNat - q1.toNat) (c5 - q1.toNat), .slice P3 (N - (q1 + q2).toNat) (c5 - (q1 + q2).toNat)] 23)).drew := ⟨_, rfl⟩
  rw [← hw8]
  have BS : Blk w8 w6.heap.size 28 #[.slice A6 n6 c6, .int .u64 skL, .bool brL] := by rw [hw8]; exact (((Blk.new w6 _ _).alloc _).alloc _).drew
  have BT : Blk w8 (w6.heap.size + 1) 28 #[.slice none 0 0, .int .u64 0, .bool false] := by rw [hw8]; exact ((Blk.new_at _ _ _ _ (by simp)).alloc _).drew
  have BG : Blk w8 (w6.heap.size + 1 + 1) 23 #[.slice P1 q1.toNat c5, .slice P2 ((q1 + q2).toNat - q1.toNat) (c5 - q1.toNat), .slice P3 (N - (q1 + q2).toNat) (c5 - (q1 + q2).toNat)] := by rw [hw8]; exact (Blk.new_at _ _ _ _ (by simp)).drew
  have K68 : Keeps (fun _ => False) w6 w8 := by rw [hw8]; exact ((((Keeps.refl _ _).alloc _).alloc _).alloc _).drew
  obtain ⟨PP, hPc, hPr⟩ : ∃ PP : Nat → Option Addr × Nat × Nat, (∀ r, r < 3 → w8.cell? ⟨w6.heap.size + 1 + 1, r, none⟩ = some (.slice (PP r).1 (PP r).2.1 (PP r).2.2)) ∧ (∀ r, r < 3 → Rd w8 w6.heap.size (PP r).1 1 (PP r).2.1 ((p r).map by8)) := by
    refine ⟨fun r => if r = 0 then (P1, q1.toNat, c5) else if r = 1 then (P2, ((q1 + q2).toNat - q1.toNat), (c5 - q1.toNat)) else (P3, (N - (q1 + q2).toNat), (c5 - (q1 + q2).toNat)), ?_, ?_⟩
    · intro r hr
      obtain rfl | rfl | rfl : r = 0 ∨ r = 1 ∨ r = 2 := by omega
      · exact BG.cell 0
      · exact BG.cell 1
      · exact BG.cell 2
    · intro r hr
      obtain rfl | rfl | rfl : r = 0 ∨ r = 1 ∨ r = 2 := by omega
      · exact PR1.out.kept K68 (fun _ _ h => h)
      · exact PR2.out.kept K68 (fun _ _ h => h)
      · exact PR3.out.kept K68 (fun _ _ h => h)
  have R6 := hide ((OB6.out.rd (by omega)).kept K68 (fun _ _ h => h))
  have RC6 := hide ((OC6.out.rd (by omega)).kept K68 (fun _ _ h => h))
  have CH8 := hide (ChCells.kept K68 (fun _ _ _ h => h) (ChCells.weak (Q := fun b => b < w6.heap.size) (fun b _ h => h) CH6.out))
  have hX := BG.lt
  have K8 := hide (K6.out.trans K68)
  have hm6 : m6 ≤ 30100 := by
    have h1 := OC6.out.len; have h2 := CH6.out.len; have h3 := feedL_chunks init L; rw [HFL.out] at h3; have h4 := HLN.out; simp only at h3; omega
  have hbL := body_feedL init L good_init emp_init
  rw [HFL.out] at hbL
  have HBL := hide hbL
  have hn6 : n6 ≤ 4097 := by
    have h1 := buf_feedL init L good_init emp_init; rw [HFL.out] at h1; have h2 := OB6.out.len; simp at h1 h2; omega
  generalize w6.heap.size = X0 at *
  have HPC := hide hPc
  have HPR := hide hPr
  have HBS := hide BS
  have HBT := hide BT
  clear hPc hPr BS BT BG K68 PR1 PR2 PR3 OB6 OC6 CH6 hw8 s1 s2 s3 S1 S2 S3 hbL
  go_loopw [15, 17, 18, 61] (fun got _ _ iv wr => ∃ (r : Nat) (A : Option Addr) (n c : Nat) (bf : List UInt8) (sk : Int) (br : Bool) (chs : List Ch) (C : Option Addr) (m mc : Nat) (cells : List Value), r ≤ 3 ∧ iv = .int .i64 r ∧ got = .slice C m mc ∧
      Hid (feedL init (Q r) = (⟨bf, sk, br⟩, chs)) ∧ Blk wr (X0 + 1) 28 #[.slice A n c, .int .u64 sk, .bool br] ∧ Own wr w8.heap.size 5 1 A n c (bf.map by8) ∧ Own wr w8.heap.size 42 2 C m mc cells ∧
      ChCells wr (fun b => w8.heap.size ≤ b ∧ ¬ inB C b) cells chs ∧ Keeps (· = X0 + 1) w8 wr) (fun _ _ _ iv _ => 3 - (intOf iv).toNat)
  case atStart => exact ⟨0, none, 0, 0, [], 0, false, [], none, 0, 0, [], by omega, rfl, rfl, by rw [HQ0.out]; rfl, HBT.out, Own.nil _ _ _ _, Own.nil _ _ _ _, trivial, Keeps.refl _ _⟩
  case round =>
    obtain ⟨r, A, n, c, bf, sk, br, chs, C, m, mc, cells, hr3, rfl, rfl, HF, b4, ob, oc, ch, kp⟩ := hrel
    have hgd : Stp.Good ⟨bf, sk, br⟩ := by have := good_feedL init (Q r) good_init; rwa [HF.out] at this
    have hem : Emp ⟨bf, sk, br⟩ := by have := emp_feedL init (Q r) emp_init; rwa [HF.out] at this
    have hbl := buf_le _ hgd hem
    have hcn := feedL_chunks init (Q r)
    rw [HF.out] at hcn
    have hql := HQL.out r hr3
    have hln := HLN.out
    have hcl := ch.len
    have hol := oc.len
    have hbn := ob.len
    have hm1 : m ≤ 30100 := by simp only at hcn; omega
    have hn1 : n ≤ 4097 := by simp only [List.length_map] at hbn hbl; omega
    have hws := kp.size
    have B4 := hide b4
    have OB := hide ob
    have OC := hide oc
    have CH := hide ch
    have KP := hide kp
    have HGD := hide hgd
    obtain ⟨⟨c0, c1, c2⟩, ⟨f0, f1, f2⟩, hlt4⟩ := b4.three
    by_cases hlt : r < 3
    · have hpc := kp.cell_some (HPC.out r hlt) (by show ¬ (X0 + 1 + 1 = X0 + 1); omega)
      have hpr := (HPR.out r hlt).kept kp (fun b hb h => by omega)
      obtain ⟨⟨PA, PN, PC⟩, hPP⟩ : ∃ q, q = PP r := ⟨_, rfl⟩
      rw [← hPP] at hpc hpr
      dsimp only at hpc hpr
      have hpl : (p r).length = PN := by simpa using hpr.1
      have hqs := HQS.out r hlt
      have hq1 := HQL.out (r + 1) (by omega)
      rw [hqs, List.length_append] at hq1
      have hfa := feedL_chunks ⟨bf, sk, br⟩ (p r)
      have hfd := Feed_any ⟨bf, sk, br⟩ HGD.out (by simp only at hbl ⊢; omega) A n c _ wr (ob.rd (by omega)) (Nat.le_refl _) (p r) PA PN PC _ hpr (by omega) (by omega) (by omega)
      have HSN : Hid (feedL init (Q (r + 1)) = ((feedL ⟨bf, sk, br⟩ (p r)).1, chs ++ (feedL ⟨bf, sk, br⟩ (p r)).2)) := by
        show _ = _
        rw [hqs, feedL_append, HF.out]
      have hfa2 : (feedL ⟨bf, sk, br⟩ (p r)).2.length ≤ 30100 := by omega
      generalize feedL ⟨bf, sk, br⟩ (p r) = q at *
      obtain ⟨⟨bf2, sk2, br2⟩, chs2⟩ := q
      dsimp only at hfd HSN hfa2
      have HFD := hide hfd
      have hrI : (r : Int) < 3 := by omega
      clear hgd hem hbl hcn hql hln hcl hol hbn b4 ob oc ch kp hpr hpl hqs hq1 hfa hfd hPP
      go_wp2_with fail
      refine HFD.out.mono ?_
      rintro e w9 ⟨A9, n9, c9, C9, m9, mc9, cells9, rfl, o9, oc9, ch9, k9⟩
      dsimp only at o9 ch9
      have b9 := B4.out.kept k9 (fun h => h)
      obtain ⟨⟨_, _, _⟩, ⟨g0, g1, g2⟩, _⟩ := b9.three
      have hm9 : m9 ≤ 30100 := by have h1 := oc9.len; have h2 := ch9.len; omega
      have hs9 := k9.size
      have B9 := hide b9
      have O9 := hide o9
      have OC9 := hide oc9
      have CH9 := hide ch9
      have K9 := hide k9
      have OCw := hide (OC.out.kept k9 (fun _ _ h => h))
      have hCB : Hid (∀ j, inB C j → w8.heap.size ≤ j ∧ j < wr.heap.size) := fun j h => OC.out.inB h
      clear b9 o9 oc9 ch9 k9 c0 c1 c2 f0 f1 f2 HFD
      trace "APPEND"
      go_wp2_with (at_builtin; refine wpList_app _ elemCh rfl (.tmp 71) (.tmp 72) rfl w8.heap.size _ rfl (OCw.out.kept (set3_keeps w9 (X0 + 1) _ _ _) (fun b hb h => by have := hCB.out b hb; omega)) _ (m := m9) cells9 rfl ((OC9.out.kept (set3_keeps w9 (X0 + 1) _ _ _) (fun b hb h => by have := OC9.out.inB hb; omega)).rd (by omega)) (ChCells.one CH9.out) (by simp only [maxLen]; omega) (by omega) (by simp [World.setCell]; omega) ?_; intro A10 c10 w10 o10 k10 hA10; have O10 := hide o10; have K10 := hide k10; have HA10 := hide hA10; clear o10 k10 hA10)
      have K39 := set3_keeps w9 (X0 + 1) (.slice A9 n9 c9) (.int .u64 sk2) (.bool br2)
      go_roundw
      case rel =>
        refine ⟨r + 1, A9, n9, c9, bf2, sk2, br2, chs ++ chs2, A10, m + m9, c10, _, by omega, by go_num, rfl, HSN.out, ?_, ?_, O10.out, ?_, ?_⟩
        · exact (((B9.out.set 0 _).set 1 _).set 2 _).kept K10.out (fun h => by have := hCB.out _ h; omega)
        · have h1 := O9.out.kept K39 (fun b hb h => by have := O9.out.inB hb; omega)
          exact (h1.kept K10.out (fun b hb h => h1.ne (OCw.out.kept K39 (fun b hb h => by have := hCB.out b hb; omega)) (by decide) hb h)).base_le (by omega)
        · have d1 := ChCells.weak (Q := fun b => (w8.heap.size ≤ b ∧ ¬ inB C b) ∧ b < w9.heap.size) (fun b h1 h2 => ⟨h1, h2⟩) (ChCells.kept K9.out (fun _ _ _ h => h) CH.out)
          have d2 := ChCells.weak (Q := fun b => (w8.heap.size ≤ b ∧ ¬ inB C b) ∧ b < w9.heap.size) (fun b h1 h2 => ⟨⟨by omega, fun h => by have := hCB.out b h; omega⟩, h2⟩) CH9.out
          have d3 := ChCells.kept K10.out (fun b hb _ h => hb.1.2 h) (ChCells.kept K39 (fun b hb _ h => by have := hb.1.1; omega) (d1.append d2))
          refine ChCells.weak (fun b hb _ => ⟨hb.1.1, fun h => ?_⟩) d3
          rcases HA10.out b h with h | h
          · exact hb.1.2 h
          · have := hb.2; have := K39.size; omega
        · exact ((KP.out.step0 K9.out).step K39 (fun k _ h => h)).step K10.out (fun b hb h => by have := hCB.out b h; omega)
      case measure => simp [intOf]; omega
    · obtain rfl : r = 3 := by omega
      have hh := HF.out
      rw [HQ3.out, HFL.out] at hh
      simp only [Prod.mk.injEq, St.mk.injEq] at hh
      obtain ⟨⟨rfl, rfl, rfl⟩, rfl⟩ := hh
      have bs := HBS.out.kept kp (by omega)
      obtain ⟨⟨g0, g1, g2⟩, _, _⟩ := bs.three
      have RA := hide (R6.out.kept kp (fun b hb h => by omega))
      have RB := hide (ob.rd (by omega))
      have RC := hide (RC6.out.kept kp (fun b hb h => by omega))
      have RD := hide (oc.rd (by omega))
      have CA := hide (ChCells.kept kp (fun b hb _ h => by omega) CH8.out)
      have KK := hide (K8.out.step kp (fun b hb h => by omega))
      clear hgd hem hbl hcn hql hln hcl hol hbn b4 ob oc ch kp bs HF HFL
      go_wp2_with fail
      refine (sameStream_any _ A6 A n6 n c6 c _ _ _ _ _ RA.out RB.out (by omega)).mono ?_
      rintro e w11 ⟨rfl, k11⟩
      have K11 := hide (KK.out.trans k11)
      have RC1 := hide (RC.out.kept k11 (fun _ _ h => h))
      have RD1 := hide (RD.out.kept k11 (fun _ _ h => h))
      have CA1 := hide (ChCells.kept k11 (fun _ _ _ h => h) CA.out)
      have CB1 := hide (ChCells.kept k11 (fun _ _ _ h => h) CH.out)
      clear k11
      go_wp2_with fail
      refine (sameChunks_any _ C6 C m6 m mc6 mc cells6 cells _ _ _ _ _ RC1.out RD1.out CA1.out CB1.out (by omega) (fun ch hch => by have := HBL.out ch hch; omega)).mono ?_
      rintro e w12 ⟨rfl, nq, rfl⟩
      go_wp2_with fail
      refine (awake06 _).mono ?_
      rintro e w13 ⟨rfl, k13⟩
      have K13 := hide ((K11.out.drewN nq).trans k13)
      clear k13
      go_wp2_with fail
      go_ret
      exact ⟨rfl, K13.out⟩
theorem walk (w : World) (A1 : Option Addr) (n1 c1 : Nat) (z1 : List Int) (r1 : Rd w w.heap.size A1 1 n1 (z1.map (.int .i64))) (b1 : ∀ z ∈ z1, -9223372036854775808 ≤ z ∧ z < 9223372036854775808) (s1 : n1 * 8 ≤ 140737488351232) (l1 : n1 ≤ c1)
    (A : Option Addr) (m c : Nat) (zs : List Int) (hr0 : Rd w w.heap.size A 1 m (zs.map (.int .u8))) (hb : ∀ z ∈ zs, 0 ≤ z ∧ z < 256) (hm : m * 1 ≤ 140737488351232) (hmc : m ≤ c)
    (cut : Int) (u0 : 0 ≤ cut) (u1 : cut < 65536) (again : Int) (v0 : 0 ≤ again) (v1 : again < 65536) :
    Calls Try.prog 3 #[.slice A1 n1 c1, .slice A m c, .int .u16 cut, .int .u16 again] w fun e w' => e = .returned (.bool true) ∧ Below w.heap.size w w' := by
  obtain ⟨l, hr, hl⟩ := bytes_of hr0 hb
  exact (main w A1 n1 c1 z1 r1 b1 (by omega) A m c l hr hl (by omega) hmc cut again u0 u1 v0 v1).mono fun e w' ⟨he, hk⟩ => ⟨he, hk.done⟩
end streamPieces
end Go.Proofs.Ytmbmlkllhcgkgaa
