/-
  StreamFeed: the stream and the chunks after any pieces; the walk. No conditions beyond those of the statement.
-/
import Derived.Test.YtmbmlkllhcgkgaaLaw06b
import Derived.Test.YtmbmlkllhcgkgaaEv6
import Derived.Test.YtmbmlkllhcgkgaaSt2
import Derived.Test.YtmbmlkllhcgkgaaLaw06c
import Derived.Deep.CutRange
import Derived.Deep.RegionHeld3
set_option linter.unusedVariables false
set_option linter.unusedSimpArgs false
namespace Go.Proofs.Ytmbmlkllhcgkgaa
open Go.RowKit
open Vp Stp

namespace streamFeed
theorem elemBs : ElemOf Try.prog 32 23 1 24 := ElemOf.mk' (z := .slice none 0 0) Try.underlying32 (by kernel_rfl) rfl (by omega)
/-- a piece: where it lies, and its bytes -/
abbrev Pc := Option Addr × Nat × Nat × List UInt8
def pv (q : Pc) : Value := .slice q.1 q.2.1 q.2.2.1
def PcRd (w : World) (B : Nat) (PS : List Pc) : Prop := ∀ q ∈ PS, Rd w B q.1 1 q.2.1 (q.2.2.2.map by8) ∧ q.2.1 ≤ 30000
theorem pv_one (PS : List Pc) : ∀ u ∈ PS.map pv, u.oneCell' = true := by intro u hu; simp at hu; obtain ⟨a, b, c, d, _, rfl⟩ := hu; rfl

set_option maxRecDepth 100000 in
set_option maxHeartbeats 4000000 in
theorem main (w : World) (A0 : Option Addr) (n0 c0 : Nat) (R : RowsF) (hr : Rd w w.heap.size A0 1 n0 ((List.range n0).map fun j => .slice (R j).1 (R j).2.1 (R j).2.2.1)) (hrr : RowsRd w w.heap.size .u8 n0 R) (hn0 : n0 * 24 ≤ 140737488351232)
    (A1 : Option Addr) (n1 c1 : Nat) (zs : List Int) (hd : Rd w w.heap.size A1 1 n1 (zs.map (.int .i64))) (hz : ∀ z ∈ zs, -9223372036854775808 ≤ z ∧ z < 9223372036854775808) (hn1 : n1 ≤ 17592186043904)
    (cut : Int) (u0 : 0 ≤ cut) (u1 : cut < 65536) :
    Calls Try.prog 5 #[.slice A0 n0 c0, .slice A1 n1 c1, .int .u16 cut] w fun e w' => e = .returned (.bool true) ∧ Keeps (fun _ => False) w w' := by
  have HB := hide (bytes_any A1 n1 c1 zs w hd hz (by omega))
  have HR := hide hr
  have HRR := hide hrr
  clear hr hrr hd hz
  go_enter Try.func5, Try.ntmps5
  go_wp2_with fail
  refine HB.out.mono ?_
  rintro e w1 ⟨A5, N, c5, L, rfl, hN, o5, k5⟩
  have hLN : L.length = N := by simpa using o5.len
  have hNc := o5.le
  have i0 : 0 ≤ cut % ((N : Int) + 1) := Int.emod_nonneg _ (by omega)
  have i1 : cut % ((N : Int) + 1) ≤ N := by have := Int.emod_lt_of_pos cut (show (0 : Int) < (N : Int) + 1 by omega); omega
  obtain ⟨P1, s1, r1, _⟩ := sub_hi elem8 A5 N c5 .i64 (cut % ((N : Int) + 1)) i0 i1 hNc
  obtain ⟨P2, s2, r2, _⟩ := sub_lo elem8 A5 N c5 .i64 (cut % ((N : Int) + 1)) i0 i1 hNc
  have hrd := o5.rd (by omega)
  have R1 := hide (r1 _ _ _ hrd)
  have R2 := hide (r2 _ _ _ hrd)
  rw [Nat.mul_one, ← List.map_take] at R1
  rw [Nat.mul_one, ← List.map_drop] at R2
  have K5 := hide k5
  have hs5 := k5.size
  clear hLN r1 r2 o5 k5 hrd HB
  go_wp2_with fail
  go_region
  go_wp2_with fail
  obtain ⟨q, hq⟩ : ∃ q, q = cut % ((N : Int) + 1) := ⟨_, rfl⟩
  rw [← hq] at i0 i1 s1 s2 R1 R2 ⊢
  obtain ⟨w2, hw2⟩ : ∃ w2, w2 = (w1.alloc (.cells #[.slice P1 q.toNat c5, .slice P2 (N - q.toNat) (c5 - q.toNat)] 23)).drew := ⟨_, rfl⟩
  rw [← hw2]
  have O2 : Hid (Own w2 w1.heap.size 23 1 (some ⟨w1.heap.size, 0, none⟩) 2 2 ([(P1, q.toNat, c5, L.take q.toNat), (P2, N - q.toNat, c5 - q.toNat, L.drop q.toNat)].map pv)) := by
    rw [hw2]; exact Own.new_at w1 w1.heap.size 23 #[.slice P1 q.toNat c5, .slice P2 (N - q.toNat) (c5 - q.toNat)] 2 1 _ rfl (Nat.le_refl _) (by simp [maxLen]) rfl
  have K12 : Hid (Keeps (fun _ => False) w1 w2) := by rw [hw2]; exact ((Keeps.refl _ _).alloc _).drew
  have HP2 : Hid (PcRd w1 w1.heap.size [(P1, q.toNat, c5, L.take q.toNat), (P2, N - q.toNat, c5 - q.toNat, L.drop q.toNat)]) := by
    intro x hx
    simp only [List.mem_cons, List.not_mem_nil, or_false] at hx
    rcases hx with rfl | rfl
    · exact ⟨R1.out, by show q.toNat ≤ _; omega⟩
    · exact ⟨R2.out, by show N - q.toNat ≤ _; omega⟩
  clear hw2 hq s1 s2 R1 R2
  go_loopw [9, 10] (fun pcs i wr => ∃ (k : Nat) (PS : List Pc) (A : Option Addr) (n c : Nat), k ≤ n0 ∧ k ≤ 8 ∧ i = .int .i64 k ∧ pcs = .slice A n c ∧ n = 2 + k ∧ Own wr w1.heap.size 23 1 A n c (PS.map pv) ∧ Hid (PcRd w1 w1.heap.size PS) ∧ Keeps (fun _ => False) w1 wr) (fun _ i _ => n0 - (intOf i).toNat)
  case atStart => exact ⟨0, _, _, 2, 2, by omega, by omega, rfl, rfl, rfl, O2.out, HP2, K12.out⟩
  case round =>
    obtain ⟨k, PS, A, n, c, hk, hk8, rfl, rfl, rfl, o, hps, kp⟩ := hrel
    have O := hide o
    have KP := hide kp
    have hws := kp.size
    clear o kp O2 HP2 K12
    by_cases hlt : k < n0 ∧ k < 8
    · obtain ⟨hlt, hlt2⟩ := hlt
      obtain ⟨b, off, rfl, hbB, hcc⟩ := (HR.out.kept (K5.out.trans KP.out) (fun _ _ h => h)).2 (by omega)
      obtain ⟨hrk, hwf, hLC, _⟩ := HRR.out k hlt
      have hx := hcc k (.slice (R k).1 (R k).2.1 (R k).2.2.1) (by simp [hlt])
      have hb8 := byts_map _ hwf
      obtain ⟨x, hxx⟩ : ∃ x, x = byts (R k).2.2.2 := ⟨_, rfl⟩
      rw [← hb8, ← hxx] at hrk
      obtain ⟨Ak, Lk, Ck, hRk⟩ : ∃ a b c, (R k).1 = a ∧ (R k).2.1 = b ∧ (R k).2.2.1 = c := ⟨_, _, _, rfl, rfl, rfl⟩
      rw [hRk.1, hRk.2.1, hRk.2.2] at hx
      rw [hRk.1, hRk.2.1] at hrk
      rw [hRk.2.1, hRk.2.2] at hLC
      obtain ⟨A3, kk, hk2, hkm, _, _, hsr, _, hmin, hsl⟩ := sub_min_k elem8 Ak Lk Ck 60 hLC
      have hr1 := hsr w _ _ hrk
      rw [Nat.mul_one, ← List.map_take] at hr1
      have HY := hide ((hr1.kept K5.out (fun _ _ h => h)).more hs5)
      rw [show ((60 : Nat) : Int) = 60 from rfl] at hmin
      have hb0 : (0 : Int) ≤ (Lk : Int) := by omega
      have hb1 : (Lk : Int) ≤ (Ck : Int) := by omega
      have hb2 : (0 : Int) ≤ (kk : Int) := by omega
      have hbk0 : (0 : Int) ≤ (k : Int) := by omega
      have hltI : (k : Int) < (n0 : Int) := by omega
      have hlt8 : (k : Int) < 8 := by omega
      clear hcc hrk hwf hb8 hxx hRk hsr hr1 hLC i0 i1
      go_wp2_with fail
      trace "REGION 7"
      go_region_held3 (fun w' => w'.cell? ⟨b, off + k, none⟩ = some (.slice Ak Lk Ck)) (first | go_keep | assumption) ((refine step_app _ elemBs (by rfl) (.tmp 42) (.tmp 54) (by rfl) w1.heap.size _ (by rfl) (Own.kept (S := fun _ => False) O.out (by first | exact (((Keeps.refl (fun _ => False) wr).drew).alloc _) | exact ((Keeps.refl (fun _ => False) wr).alloc _)) (fun _ _ h => h)) _ (m := 1) [.slice A3 kk Ck] (by rfl) (by exact Blk.rd (xs := [.slice A3 kk Ck]) (Blk.new_at _ _ _ _ (by simp)) rfl) (by simp [Value.oneCell']) (by simp only [maxLen]; omega) (by omega) (by simp; omega) ?_; intro A7 c7 w7 o7 k7 hA7; have O7 := hide o7; (first | have hx7 := (((((Keeps.refl (inB A) wr).drew).alloc (.cells #[.slice A3 kk Ck] 23)).trans k7)).cell_some hx (fun h => by have h9 : b < w.heap.size := hbB; have := O.out.inB h; dsimp only at this; omega) | have hx7 := ((((Keeps.refl (inB A) wr).alloc (.cells #[.slice A3 kk Ck] 23)).trans k7)).cell_some hx (fun h => by have h9 : b < w.heap.size := hbB; have := O.out.inB h; dsimp only at this; omega)); have K7 := hide k7; clear o7 k7 hA7))
      go_wp2_with fail
      trace "R7"
      go_roundw
      case rel =>
        refine ⟨k + 1, PS ++ [(A3, kk, Ck, x.take kk)], A7, _, c7, by omega, by omega, by go_num, rfl, by omega, ?_, ?_, ?_⟩
        · have := O7.out
          rw [List.map_append]
          exact this
        · intro y hy
          rcases List.mem_append.1 hy with hy | hy
          · exact hps.out y hy
          · obtain rfl := List.mem_singleton.1 hy
            exact ⟨HY.out, by show kk ≤ _; omega⟩
        · first
            | exact ((KP.out.drew).alloc _).step K7.out (fun b hb h => by have := O.out.inB h; omega)
            | exact (KP.out.alloc _).step K7.out (fun b hb h => by have := O.out.inB h; omega)
      case measure => simp [intOf]; omega
    · have hPn : PS.length = 2 + k := by have := O.out.len; simpa using this
      obtain ⟨g, rfl, hg1, hg2⟩ := O.out.some_ (by omega)
      generalize hnn : 2 + k = n at *
      have hn10 : n ≤ 10 := by omega
      have hcase : (decide (k < n0) = false) ∨ (decide (k < n0) = true ∧ decide ((k : Int) < 8) = false) := by
        by_cases h : k < n0
        · right; simp; omega
        · left; simp; omega
      clear hnn hlt i0 i1
      trace "LAST"
      rcases hcase with hc1 | ⟨hc1, hc2⟩
      all_goals
        go_wp2_with fail
        obtain ⟨w3, hw3⟩ : ∃ w3, w3 = (wr.alloc (.cells #[.slice none 0 0, .int .u64 0, .bool false] 28)).alloc (.cells #[.slice none 0 0, .int .u64 0, .bool false] 28) := ⟨_, rfl⟩
        rw [← hw3]
        have BX := hide (show Blk w3 wr.heap.size 28 #[.slice none 0 0, .int .u64 0, .bool false] by rw [hw3]; exact (Blk.new wr _ _).alloc _)
        have BY := hide (show Blk w3 (wr.heap.size + 1) 28 #[.slice none 0 0, .int .u64 0, .bool false] by rw [hw3]; exact Blk.new_at _ _ _ _ (by simp))
        have K3 := hide (show Keeps (fun _ => False) wr w3 by rw [hw3]; exact ((Keeps.refl _ _).alloc _).alloc _)
        have O3 := hide (O.out.kept K3.out (fun _ _ h => h))
        have hX := BY.out.lt
        have KX := hide (KP.out.trans K3.out)
        generalize wr.heap.size = X at *
        have HPN := hide hPn
        clear hw3 hPn O KP K3
        go_loopw [14, 15, 16, 58] (fun _ _ _ iv wr => ∃ (r : Nat) (sA tA : Option Addr) (sn sc tn tc : Nat) (bf : List UInt8) (sk : Int) (br : Bool), r ≤ n ∧ iv = .int .i64 r ∧ Hid (Stp.Good ⟨bf, sk, br⟩ ∧ Emp ⟨bf, sk, br⟩) ∧ Blk wr X 28 #[.slice sA sn sc, .int .u64 sk, .bool br] ∧
            Blk wr (X + 1) 28 #[.slice tA tn tc, .int .u64 sk, .bool br] ∧ Own wr w3.heap.size 5 1 sA sn sc (bf.map by8) ∧ Own wr w3.heap.size 5 1 tA tn tc (bf.map by8) ∧ Keeps (fun b => b = X ∨ b = X + 1) w3 wr) (fun _ _ _ iv _ => n - (intOf iv).toNat)
        case atStart => exact ⟨0, none, none, 0, 0, 0, 0, [], 0, false, by omega, rfl, ⟨good_init, emp_init⟩, BX.out, BY.out, Own.nil _ _ _ _, Own.nil _ _ _ _, Keeps.refl _ _⟩
        case round =>
          obtain ⟨r, sA, tA, sn, sc, tn, tc, bf, sk, br, hrn, rfl, hge, bx, bY, os, ot, kp⟩ := hrel
          have hws3 := kp.size
          have KP := hide kp
          by_cases hlt : r < n
          · trace "ROUND"
            obtain ⟨q, hq⟩ : ∃ q, PS[r]? = some q := ⟨PS[r]'(by have := HPN.out; omega), by simp⟩
            obtain ⟨⟨c0, c1, c2⟩, ⟨f0, f1, f2⟩, hlt4⟩ := bx.three
            have hpc := O3.out.cell r (by omega)
            rw [List.getElem?_map, hq] at hpc
            obtain ⟨hpr, hpn⟩ := hps.out q (List.mem_of_getElem? hq)
            obtain ⟨PA, PN, PC, pb⟩ := q
            dsimp only [pv, Option.map_some] at hpc hpr hpn
            have hpc := kp.cell_some hpc (by show ¬ (g = X ∨ g = X + 1); omega)
            have hpr := (hpr.kept KX.out (fun _ _ h => h)).kept kp (fun b hb h => by omega)
            have hbl := buf_le _ hge.out.1 hge.out.2
            have hbn := os.len
            have hbt := ot.len
            simp only [List.length_map] at hbn hbt hbl
            have hpl : pb.length = PN := by simpa using hpr.1
            have hfa := feedL_chunks ⟨bf, sk, br⟩ pb
            have hfd := Feed_any ⟨bf, sk, br⟩ hge.out.1 (by simp only; omega) sA sn sc _ wr (os.rd (by omega)) (Nat.le_refl _) pb PA PN PC _ hpr (by omega) (by omega) (by omega)
            have hfr := fun W A n c (hr : Rd W W.heap.size A 1 n (bf.map by8)) (h2 : Rd W w1.heap.size PA 1 PN (pb.map by8)) (h3 : w1.heap.size ≤ W.heap.size) => rFeed_any ⟨bf, sk, br⟩ hge.out.1 (by simp only; omega) A n c _ W hr (Nat.le_refl _) pb PA PN PC _ h2 h3 (by omega) (by omega)
            have hg2' := good_feedL ⟨bf, sk, br⟩ pb hge.out.1
            have he2 := emp_feedL ⟨bf, sk, br⟩ pb hge.out.2
            have hb2 := body_feedL ⟨bf, sk, br⟩ pb hge.out.1 hge.out.2
            have hbu := buf_feedL ⟨bf, sk, br⟩ pb hge.out.1 hge.out.2
            have hfa2 : (feedL ⟨bf, sk, br⟩ pb).2.length ≤ 30000 := by omega
            generalize feedL ⟨bf, sk, br⟩ pb = z at *
            obtain ⟨⟨bf2, sk2, br2⟩, chs2⟩ := z
            dsimp only at hfd hfr hg2' he2 hb2 hbu hfa2
            have HFD := hide hfd
            have HFR := hide hfr
            have HGE2 : Hid (Stp.Good ⟨bf2, sk2, br2⟩ ∧ Emp ⟨bf2, sk2, br2⟩) := ⟨hg2', he2⟩
            have HB2 := hide hb2
            have HOS := hide os
            have HOT := hide ot
            have HPR := hide hpr
            have HBX := hide bx
            have HBY := hide bY
            have hrI : (r : Int) < (n : Int) := by omega
            clear hfd hfr hg2' he2 hb2 hbl hbn hbt hpl hfa hpr os ot bx bY kp hq
            go_wp2_with fail
            refine HFD.out.mono ?_
            rintro e w9 ⟨A9, n9, c9, C9, m9, mc9, cells9, rfl, o9, oc9, ch9, k9⟩
            dsimp only at o9 ch9
            have bx9 := HBX.out.kept k9 (fun h => h)
            obtain ⟨⟨_, _, _⟩, ⟨_, _, _⟩, hXl⟩ := bx9.three
            have BY9 := hide (HBY.out.kept k9 (fun h => h))
            have hm9 : m9 ≤ 30000 := by have h1 := oc9.len; have h2 := ch9.len; omega
            have hn9 : bf2.length = n9 := by simpa using o9.len
            have hs9 := k9.size
            have B9 := hide bx9
            have O9 := hide o9
            have OC9 := hide oc9
            have CH9 := hide ch9
            have K9 := hide k9
            clear bx9 o9 oc9 ch9 k9 HFD c0 c1 c2 f0 f1 f2
            trace "FEED2"
            have by9 := BY9.out
            obtain ⟨⟨e0, e1, e2⟩, ⟨l0, l1, l2⟩, hYl⟩ := by9.three
            go_wp2_with fail
            clear e0 e1 e2 l0 l1 l2 by9
            have K39 := set3_keeps w9 X (.slice A9 n9 c9) (.int .u64 sk2) (.bool br2)
            have BX9 : Hid (Blk _ X 28 #[.slice A9 n9 c9, .int .u64 sk2, .bool br2]) := (((B9.out.set 0 (.slice A9 n9 c9)).set 1 (.int .u64 sk2)).set 2 (.bool br2))
            generalize ((w9.setCell ⟨X, 0, none⟩ (.slice A9 n9 c9)).setCell ⟨X, 1, none⟩ (.int .u64 sk2)).setCell ⟨X, 2, none⟩ (.bool br2) = W9 at *
            have BY39 := hide (BY9.out.kept K39 (by omega))
            have KW9 := hide ((KP.out.step0 K9.out).step K39 (fun k _ h => .inl h))
            have OW9 := hide (O9.out.kept K39 (fun b hb h => by have := O9.out.inB hb; omega))
            have OC9' := hide (OC9.out.kept K39 (fun b hb h => by have := OC9.out.inB hb; omega))
            have CW9 := hide (ChCells.kept K39 (fun b hb _ h => by omega) CH9.out)
            have OO9 := hide ((O9.out.kept K39 (fun b hb h => by have := O9.out.inB hb; omega)).base_le (b := w3.heap.size) (by omega))
            have hk39 := K39.size
            have hk9 := KW9.out.size
            have RP9 := hide (((HPR.out.kept K9.out (fun _ _ h => h)).kept K39 (fun b hb h => by omega)))
            have RT9 := hide ((((HOT.out.kept K9.out (fun _ _ h => h)).kept K39 (fun b hb h => by have := HOT.out.inB hb; omega))).rd (by omega))
            clear B9 O9 OC9 CH9 K9 BY9 HOT HPR HBX HBY K39
            refine (HFR.out W9 tA tn tc RT9.out RP9.out (by omega)).mono ?_
            rintro e w10 ⟨A10, n10, c10, C10, m10, mc10, cells10, rfl, o10, oc10, ch10, k10⟩
            dsimp only at o10 ch10
            have by10 := BY39.out.kept k10 (fun h => h)
            obtain ⟨⟨d0, d1, d2⟩, ⟨g0, g1, g2⟩, _⟩ := by10.three
            have hn10 : n9 = n10 := by have := o10.len; simp only [List.length_map] at this; omega
            subst hn10
            have hm10 : m10 ≤ 30000 := by have h1 := oc10.len; have h2 := ch10.len; omega
            have BX10 := hide (BX9.out.kept k10 (fun h => h))
            have OW10 := hide (OW9.out.kept k10 (fun _ _ h => h))
            have OC10 := hide (OC9'.out.kept k10 (fun _ _ h => h))
            have CW10 := hide (ChCells.kept k10 (fun _ _ _ h => h) CW9.out)
            have OO10 := hide (OO9.out.kept k10 (fun _ _ h => h))
            have KW10 := hide (KW9.out.step0 k10)
            have hs10 := k10.size
            have B10 := hide by10
            have O10 := hide o10
            have OD10 := hide oc10
            have CH10 := hide ch10
            clear by10 o10 oc10 ch10 k10 HFR BX9 BY39 OW9 OC9' CW9 OO9 KW9 RP9 RT9
            trace "FEED3"
            go_wp2_with fail
            trace "REGION 15"
            have K39 := set3_keeps w10 (X + 1) (.slice A10 n9 c10) (.int .u64 sk2) (.bool br2)
            have BYW : Hid (Blk _ (X + 1) 28 #[.slice A10 n9 c10, .int .u64 sk2, .bool br2]) := (((B10.out.set 0 (.slice A10 n9 c10)).set 1 (.int .u64 sk2)).set 2 (.bool br2))
            generalize ((w10.setCell ⟨X + 1, 0, none⟩ (.slice A10 n9 c10)).setCell ⟨X + 1, 1, none⟩ (.int .u64 sk2)).setCell ⟨X + 1, 2, none⟩ (.bool br2) = W10 at *
            have BXW := hide (BX10.out.kept K39 (by omega))
            have RA := hide ((OW10.out.kept K39 (fun b hb h => by have := OW10.out.inB hb; omega)).rd (by omega))
            have RC := hide ((OC10.out.kept K39 (fun b hb h => by have := OC10.out.inB hb; omega)).rd (by omega))
            have CA := hide (ChCells.kept K39 (fun b hb _ h => by omega) CW10.out)
            have OA := hide (OO10.out.kept K39 (fun b hb h => by have := OO10.out.inB hb; omega))
            have ob10 := O10.out.kept K39 (fun b hb h => by have := O10.out.inB hb; omega)
            have RB := hide (ob10.rd (by omega))
            have OB := hide (ob10.base_le (b := w3.heap.size) (by omega))
            have RD := hide ((OD10.out.kept K39 (fun b hb h => by have := OD10.out.inB hb; omega)).rd (by omega))
            have CB := hide (ChCells.kept K39 (fun b hb _ h => by omega) CH10.out)
            have KW := hide (KW10.out.step K39 (fun k _ h => .inr h))
            clear ob10 K39 BX10 B10 OW10 OC10 CW10 OO10 O10 OD10 CH10 KW10 d0 d1 d2 g0 g1 g2
            have HC := hide (show ∀ W', Keeps (fun _ => False) W10 W' → W'.cell? ⟨X, 0, none⟩ = some (.slice A9 n9 c9) ∧ W'.cell? ⟨X, 1, none⟩ = some (.int .u64 sk2) ∧ W'.cell? ⟨X, 2, none⟩ = some (.bool br2) ∧
                W'.cell? ⟨X + 1, 0, none⟩ = some (.slice A10 n9 c10) ∧ W'.cell? ⟨X + 1, 1, none⟩ = some (.int .u64 sk2) ∧ W'.cell? ⟨X + 1, 2, none⟩ = some (.bool br2) from
              fun W' k => have x := (BXW.out.kept k (fun h => h)).three.1; have y := (BYW.out.kept k (fun h => h)).three.1; ⟨x.1, x.2.1, x.2.2, y.1, y.2.1, y.2.2⟩)
            have HS := hide (fun W' (k : Keeps (fun _ => False) W10 W') => sameStream_any bf2 A9 A10 n9 n9 c9 c10 _ _ sk2 br2 W' (RA.out.kept k (fun _ _ h => h)) (RB.out.kept k (fun _ _ h => h)) (by omega))
            have HCH := hide (fun W' (k : Keeps (fun _ => False) W10 W') => sameChunks_any chs2 C9 C10 m9 m10 mc9 mc10 cells9 cells10 _ _ _ _ W' (RC.out.kept k (fun _ _ h => h)) (RD.out.kept k (fun _ _ h => h)) (ChCells.kept k (fun _ _ _ h => h) CA.out) (ChCells.kept k (fun _ _ _ h => h) CB.out) (by omega) (fun ch hch => by have := HB2.out ch hch; omega))
            obtain ⟨d0, d1, d2, e0, e1, e2⟩ := HC.out W10 (Keeps.refl _ _)
            have hXs := BXW.out.lt
            have hYs := BYW.out.lt
            clear RA RB RC RD CA CB HB2 HPN O3 BX BY
            go_cut [90] from 74 to 90 (fun s90 wx => s90 = .bool false ∧ Keeps (fun _ => False) W10 wx)
            case first =>
              have k0 : Keeps (fun _ => False) W10 W10 := Keeps.refl _ _
              go_region_held3 (fun W' => W'.cell? ⟨X, 0, none⟩ = some (.slice A9 n9 c9) ∧ W'.cell? ⟨X, 1, none⟩ = some (.int .u64 sk2) ∧ W'.cell? ⟨X, 2, none⟩ = some (.bool br2) ∧ W'.cell? ⟨X + 1, 0, none⟩ = some (.slice A10 n9 c10) ∧ W'.cell? ⟨X + 1, 1, none⟩ = some (.int .u64 sk2) ∧ W'.cell? ⟨X + 1, 2, none⟩ = some (.bool br2)) (first | exact HC.out _ (by assumption) | exact HC.out _ (Keeps.drew (by assumption)) | go_keep) (first
                | (go_at_call 10; refine (HS.out _ (by first | assumption | exact Keeps.drew (by assumption))).mono ?_; rintro e w11 ⟨rfl, k11'⟩; have k11 : Keeps (fun _ => False) W10 w11 := Keeps.trans (by first | assumption | exact Keeps.drew (by assumption)) k11'; clear k11')
                | (go_at_call 11; refine (HCH.out _ (by assumption)).mono ?_; rintro e w12 ⟨rfl, nq, rfl⟩; have k12 := k11.drewN nq)
                | (go_at_call 14; refine (idle_any _ _ _ _ _ _).mono ?_; rintro e w13 ⟨rfl, k13'⟩; have k13 := k12.trans k13'; clear k13')
                | (go_at_call 15; refine (ridle_any _ _ _ _ _ _).mono ?_; rintro e w14 ⟨rfl, k14'⟩; have k14 := k13.trans k14'; clear k14'))
              all_goals
                trace "WAY"
                go_wp2_with fail
                go_meet
                exact ⟨by simp, by assumption⟩
            case rest =>
            obtain ⟨rfl, k90⟩ := hcut
            trace "REST"
            go_wp2_with fail
            go_roundw
            case rel =>
              refine ⟨r + 1, A9, A10, n9, c9, n9, c10, bf2, sk2, br2, by omega, by go_num, HGE2, BXW.out.kept k90 (fun h => h), BYW.out.kept k90 (fun h => h), OA.out.kept k90 (fun _ _ h => h), OB.out.kept k90 (fun _ _ h => h), KW.out.step0 k90⟩
            case measure => simp [intOf]; omega
          · obtain rfl : r = n := by omega
            have KK := hide (KX.out.step KP.out (fun b hb h => by omega))
            have K1' := hide (K5.out.step KK.out (fun b hb h => h))
            clear bx bY os ot kp KP HR HRR
            trace "EXIT"
            go_wp2_with fail
            refine (awake06 _).mono ?_
            rintro e w13 ⟨rfl, k13⟩
            have K13 := hide (K1'.out.trans k13)
            clear k13
            go_wp2_with fail
            go_ret
            exact ⟨rfl, K13.out⟩

theorem walk (w : World) (A0 : Option Addr) (n0 c0 : Nat) (R : RowsF) (hr : Rd w w.heap.size A0 1 n0 ((List.range n0).map fun j => .slice (R j).1 (R j).2.1 (R j).2.2.1)) (hrr : RowsRd w w.heap.size .u8 n0 R) (hn0 : n0 * 24 ≤ 140737488351232) (hc0 : n0 ≤ c0)
    (A1 : Option Addr) (n1 c1 : Nat) (z1 : List Int) (r1 : Rd w w.heap.size A1 1 n1 (z1.map (.int .i64))) (b1 : ∀ z ∈ z1, -9223372036854775808 ≤ z ∧ z < 9223372036854775808) (s1 : n1 * 8 ≤ 140737488351232) (l1 : n1 ≤ c1)
    (cut : Int) (u0 : 0 ≤ cut) (u1 : cut < 65536) :
    Calls Try.prog 5 #[.slice A0 n0 c0, .slice A1 n1 c1, .int .u16 cut] w fun e w' => e = .returned (.bool true) ∧ Below w.heap.size w w' :=
  (main w A0 n0 c0 R hr hrr hn0 A1 n1 c1 z1 r1 b1 (by omega) cut u0 u1).mono fun e w' ⟨he, hk⟩ => ⟨he, hk.done⟩
end streamFeed
end Go.Proofs.Ytmbmlkllhcgkgaa
