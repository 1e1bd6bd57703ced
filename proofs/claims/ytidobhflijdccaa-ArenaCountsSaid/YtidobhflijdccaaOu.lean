/-
  ArenaCounts: the slots in use are those that were allocated and not freed. No conditions beyond those of the statement.
-/
import Derived.Test.YtidobhflijdccaaHd
import Derived.Test.YtidobhflijdccaaSi
import Derived.Deep.RegionLaw
set_option linter.unusedVariables false
set_option linter.unusedSimpArgs false
namespace Go.Proofs.Ytidobhflijdccaa
open Go.RowKit Cfp
def livCs (s : Ar) : Array Value := ((livesA s).map (.int .i64)).toArray
theorem liv_cell {w : World} {v : Nat} {s : Ar} (h : Blk w v 3 (livCs s)) {i : Nat} {c : Cls} (hc : s.cls[i]? = some c) : w.cell? ⟨v, i, none⟩ = some (.int .i64 c.live) := by
  rw [h.cell, livCs, List.getElem?_toArray, List.getElem?_map, livesA, List.getElem?_map, hc]
  rfl
theorem liv_set (s s' : Ar) (i : Nat) (x : Int) (h : livesA s' = (livesA s).set i x) : (livCs s).setIfInBounds i (.int .i64 x) = livCs s' := by
  unfold livCs
  rw [h]
  simp [List.map_set]
theorem cls_len {s : Ar} {l : List (Int × Int)} {n : Nat} (h : shapeA s = l) (hn : l.length = n) : s.cls.length = n := by
  rw [← hn, ← h]; simp [shapeA]
theorem cls_at {s : Ar} {l : List (Int × Int)} {i : Nat} {c : Cls} (h : shapeA s = l) (hc : s.cls[i]? = some c) : l[i]? = some (c.size, c.count) := by
  rw [← h]; simp [shapeA, hc]
theorem LV.cls {s : Ar} {i k : Nat} {g : Int} {d : List UInt8} (h : LV s i k g d) : ∃ c, s.cls[i]? = some c := by
  obtain ⟨c, x, h1, _⟩ := h
  exact ⟨c, h1⟩
/-- what a walk must know of a class -/
theorem Inv.bds {s : Ar} {L : Nat → List Nat} {M : Int} (v : Inv s L M) {i : Nat} {c : Cls} (hc : s.cls[i]? = some c) : 0 ≤ c.live ∧ c.live ≤ 65536 ∧ 1 ≤ c.size ∧ c.size ≤ 4096 ∧ c.live ≤ c.count := by
  have h1 := v.lv i c hc
  have h2 := usedN_bd c.slots
  have h3 := v.cb i c hc
  omega
theorem liv_getD {s : Ar} {i : Nat} {c : Cls} (hc : s.cls[i]? = some c) : (livesA s).getD i 0 = c.live := by simp [livesA, List.getD, hc]
theorem liv_new (l : List (Int × Int)) (n : Nat) (CA : Option Addr) (cap : Nat) (hn : l.length = n) : Array.replicate n (.int .i64 0 : Value) = livCs (parAr l n CA cap) := by
  have hcl : (parAr l n CA cap).cls = l.map mkC := by unfold parAr; rw [← hn, List.take_length]
  unfold livCs livesA
  rw [hcl, ← hn, ← List.toArray_replicate]
  congr 1
  refine List.ext_getElem? fun j => ?_
  by_cases hj : j < l.length
  · simp [hj, mkC]
  · simp [hj]
theorem shape_new (l : List (Int × Int)) (n : Nat) (CA : Option Addr) (cap : Nat) (hn : l.length = n) : shapeA (parAr l n CA cap) = l := by
  have hcl : (parAr l n CA cap).cls = l.map mkC := by unfold parAr; rw [← hn, List.take_length]
  unfold shapeA
  rw [hcl, List.map_map, show ((fun c : Cls => (c.size, c.count)) ∘ mkC) = id from by funext x; rfl, List.map_id]
theorem OwnT.ar {w : World} {base n c sz : Nat} {A : Option Addr} {xs : List Value} (h : OwnT w base 40 sz A n c xs) {B : Nat} {b : Nat} (hb : Go.Proofs.Ytidobhflijdccaa.inB A b) : ¬ ArS B w b := by
  obtain ⟨cs, h4⟩ := h.blk hb
  exact ArS.not h4 (by decide) (by decide) (by decide)

namespace arenaCounts
set_option maxRecDepth 100000 in
set_option maxHeartbeats 4000000 in
theorem main (w : World) (A1 : Option Addr) (n1 c1 : Nat) (zs : List Int) (hd : Rd w w.heap.size A1 1 n1 (zs.map (.int .i64))) (hz : ∀ z ∈ zs, -9223372036854775808 ≤ z ∧ z < 9223372036854775808) (hn1 : n1 ≤ 17592186043904)
    (A2 : Option Addr) (n2 c2 : Nat) (z2 : List Int) (hd2 : Rd w w.heap.size A2 1 n2 (z2.map (.int .i64))) (hz2 : ∀ z ∈ z2, -9223372036854775808 ≤ z ∧ z < 9223372036854775808) (hn2 : n2 ≤ 17592186043904) :
    Calls Try.prog 4 #[.slice A1 n1 c1, .slice A2 n2 c2] w fun e w' => e = .returned (.bool true) ∧ Keeps (fun _ => False) w w' := by
  have HD := hide hd
  have HD2 := hide hd2
  have HZ2 := hide hz2
  clear hd hd2 hz2
  go_enter Try.func4, Try.ntmps4
  go_wp2_with fail
  refine (new_deck A1 n1 c1 zs _ w (Nat.le_refl _) HD.out hz (by omega)).mono ?_
  rintro e w1 ⟨rfl, d1, k1⟩
  have K1 := hide k1
  have hg : w.heap.size < w1.heap.size := d1.lt
  clear k1
  go_wp2_with fail
  refine (classes_any _ _ w1 d1).mono ?_
  rintro e w2 ⟨D, n, m, l, rfl, hn4, hE, hlb, ho2, hd2', k2⟩
  have K2 := hide (K1.out.step k2 (fun b hb e => by omega))
  have HD2 := hide (HD2.out.kept K2.out (fun _ _ h => h))
  have HO2 := hide ho2
  have HLn : Hid (l.length = n) := by have := ho2.len; rw [prs_len] at this; show _ = _; omega
  have hnp : 0 < n := by have := (classes_bd2 l hE).1; have := HLn.out; omega
  obtain ⟨C, rfl, _⟩ := ho2.some_ hnp
  have HNw := hide (anew_ok l hE (some ⟨C, 0, none⟩) n m _ w2 (ho2.rd (by omega)) (Nat.le_refl _))
  clear K1 d1 ho2 hd2' k2 hlb
  go_wp2_with fail
  trace "NEW"
  refine HNw.out.mono ?_
  rintro e w3 ⟨a, CA, cap, rfl, h3, k3⟩
  obtain ⟨B0, hB0⟩ : ∃ B0, B0 = w2.heap.size := ⟨_, rfl⟩
  rw [← hB0] at h3
  have hV := inv_new l hE CA cap n HLn.out
  have HV := hide hV
  have HS := hide (shape_new l n CA cap HLn.out)
  have HH := hide (HeldC.nil (parAr l n CA cap))
  have hmk : ∀ w, (Instr.makeSlice 23 (.int .i64 (n : Int)) (.int .i64 (n : Int))).run Try.prog w = .ok (.slice (some ⟨w.heap.size, 0, none⟩) n n) (w.alloc (.cells (Array.replicate n (.int .i64 0)) 3)) := fun w => by rw [run_makeJ n (by omega) w, List.toArray_replicate]
  have hwB : w2.heap.size ≤ B0 := by omega
  have hB3 : B0 ≤ w3.heap.size := by rw [hB0]; exact k3.size
  have HB0 := hide hB0
  have kl := k3.alloc (.cells (Array.replicate n (.int .i64 0)) 3)
  have hL : Blk (w3.alloc (.cells (Array.replicate n (.int .i64 0)) 3)) w3.heap.size 3 (livCs (parAr l n CA cap)) := by
    rw [← liv_new l n CA cap HLn.out]
    exact Blk.new w3 _ _
  have HL := hide hL
  have HA := hide (h3.quiet ((Keeps.refl (fun _ => False) w3).alloc (.cells (Array.replicate n (.int .i64 0)) 3)))
  have K4 := hide kl
  have hvB : w2.heap.size ≤ w3.heap.size := Nat.le_trans hwB hB3
  have hB4 := Nat.le_trans hB3 ((Keeps.refl (fun _ => False) w3).alloc (.cells (Array.replicate n (.int .i64 0)) 3)).size
  clear hB0 h3 k3 kl hL hV hE HNw
  go_upto_region 7 with fail
  trace "MADE"
  generalize w3.alloc _ = w4 at *
  generalize w3.heap.size = v at *
  clear hmk
  go_upto_region 9 with fail
  trace "LOOP"
  go_loopw [10, 11, 12, 13, 14, 15, 16, 17, 18] (fun lv iv _ _ _ _ _ _ _ wr => ∃ (j : Nat) (s : Ar) (L : Nat → List Nat) (D3 : Option Addr) (k3 m3 : Nat) (H : List Hd), j ≤ 60 ∧ lv = .slice D3 k3 m3 ∧ iv = .int .i64 j ∧ Hid (H.length = k3) ∧ k3 ≤ j ∧ Hid (OwnT wr w2.heap.size 40 3 D3 k3 m3 (hdCs H)) ∧ Hid (IsAr wr B0 a s) ∧ Hid (Inv s L j) ∧ Hid (HeldC s H) ∧ Hid (shapeA s = l) ∧ Hid (Blk wr v 3 (livCs s)) ∧ Hid (Keeps (fun _ => False) w2 wr) ∧ B0 ≤ wr.heap.size) (fun _ iv _ _ _ _ _ _ _ _ => 60 - (intOf iv).toNat)
  case atStart => exact ⟨0, _, _, none, 0, 0, [], by omega, rfl, rfl, rfl, by omega, hide (OwnT.nil _ _ _ _), HA, HV, HH, HS, HL, K4, hB4⟩
  case round =>
    obtain ⟨j, s, L, D3, k3, m3, H, hj, rfl, rfl, HHn, hkj, HO, HA3, HV3, HH3, HS3, HL3, HK, hBr⟩ := hrel
    clear HA HV HH HS HL K4
    by_cases hlt : j < n2 ∧ j < 60
    · obtain ⟨hlt1, hlt2⟩ := hlt
      have e1 : decide ((j : Int) < (n2 : Int)) = true := by simpa using hlt1
      have e2 : decide ((j : Int) < 60) = true := by simp; omega
      obtain ⟨b2, off2, rfl, hb2, hcell⟩ := (HD2.out.kept HK.out (fun b hb h => h)).2 (by omega)
      have hzl : z2.length = n2 := by have := HD2.out.1; simpa using this
      obtain ⟨z, hze⟩ : ∃ z, z2[j]? = some z := ⟨z2[j]'(by omega), by simp⟩
      have hc1 := hcell j (.int .i64 z) (by rw [List.getElem?_map, hze]; rfl)
      have hzb := HZ2.out z (List.mem_of_getElem? hze)
      have hjI : (j : Int) < (n2 : Int) := by omega
      have hj0 : (0 : Int) ≤ (j : Int) := by omega
      have hle := HO.out.le
      have HZe := hide hze
      clear hcell hze hzl
      by_cases hA : ((bits .and .i64 z 1 == 0) = true) ∧ 0 < k3
      · obtain ⟨ha1, ha2⟩ := hA
        have e3 : decide ((0 : Int) < (k3 : Int)) = true := by simpa using ha2
        have hk0 : (0 : Int) < (k3 : Int) := by omega
        obtain ⟨x, H', rfl⟩ : ∃ x H', H = x :: H' := by
          rcases H with _ | ⟨x, H'⟩
          · have := HHn.out; simp at this; omega
          · exact ⟨x, H', rfl⟩
        obtain ⟨b3, o3, rfl, _, hcl⟩ := HO.out.rd.2 (by omega)
        have q0 := hcl 0 (.int .i64 x.1) rfl
        have q1 := hcl 1 (.int .i64 x.2.1) rfl
        have q2 := hcl 2 (.int .i64 x.2.2) rfl
        rw [Nat.add_zero] at q0
        obtain ⟨dx, hlv⟩ := HH3.out.lv x (List.mem_cons_self ..)
        have HLVx := hide hlv
        obtain ⟨c, hc⟩ := hlv.cls
        obtain ⟨f0, f1, f2, f3, f4⟩ := HV3.out.bds hc
        have hxi : x.1 < n := by rw [← cls_len HS3.out HLn.out]; exact (List.getElem?_eq_some_iff.1 hc).1
        have HC := hide hc
        obtain ⟨A6, hsl, hown6, hin6⟩ := OwnT.drop (A := some ⟨b3, o3, none⟩) (n := k3) (c := m3) elemH .i64 1 (by omega) (by omega) hle
        rw [show (1 : Int).toNat = 1 from rfl] at hsl hown6
        have HO1 := hide (hown6 _ _ _ HO.out)
        have HHn6 : Hid (H'.length = k3 - 1) := by have := HHn.out; simp at this; show _ = _; omega
        have kb := (Keeps.refl (fun _ => False) wr).alloc (.cells #[.int .i64 x.1, .int .i64 x.2.1, .int .i64 x.2.2] 40)
        have HX := hide (Blk.new wr 40 #[.int .i64 x.1, .int .i64 x.2.1, .int .i64 x.2.2])
        have HA5 := hide (HA3.out.quiet kb)
        have O5 := hide (HO1.out.kept kb (fun _ _ h => h))
        have HL5 := hide (HL3.out.kept kb (fun h => h))
        have K5 := hide (HK.out.trans kb)
        have hB5 := Nat.le_trans hBr kb.size
        clear hcl hlv hc hown6 hin6 kb HO HO1 HA3 HL3 HK HHn
        go_upto_region 13 with fail
        trace "R13"
        generalize wr.alloc _ = w5 at *
        generalize wr.heap.size = X at *
        clear q0 q1 q2
        obtain ⟨⟨r0, r1, r2⟩, _, hX5⟩ := HX.out.three
        go_upto_region 14 with fail
        trace "R14"
        clear hsl
        go_wp2_with fail
        trace "FREE"
        refine (free_any B0 a s L j x.1 x.2.1 x.2.2 dx w5 HA5.out HV3.out HLVx.out).mono ?_
        rintro e w6 ⟨rfl, ⟨s6, L6, h6, v6, g6⟩, k6⟩
        have HX6 := hide (HX.out.kept k6 (ArS.not HX.out (by decide) (by decide) (by decide)))
        have hL6 := HL5.out.kept k6 (ArS.not HL5.out (by decide) (by decide) (by decide))
        have O5b := hide (O5.out.kept k6 (fun b hb => O5.out.ar hb))
        have hcv := liv_cell hL6 HC.out
        have hfv := hL6.frozen x.1
        have hv6 := hL6.lt
        have kx := keepsOne w6 v x.1 (.int .i64 (c.live - 1))
        have hset := hL6.set x.1 (.int .i64 (c.live - 1))
        rw [liv_set s s6 x.1 (c.live - 1) (by rw [g6.lives, liv_getD HC.out])] at hset
        have hl1 : 1 ≤ c.live := by have := g6.hi.2; rw [liv_getD HC.out] at this; exact this
        have ws : IntKind.i64.wrap (c.live - 1) = c.live - 1 := IntWalk.i64_in _ (by omega)
        have HA6 := hide (h6.kept kx (fun b hb => by subst hb; exact .inr ⟨_, _, hL6, by decide, by decide, by decide, by decide⟩))
        have HL6 := hide hset
        have O6 := hide (O5b.out.kept kx (fun b hb e => by obtain ⟨cs, h4⟩ := O5b.out.blk hb; subst e; exact absurd (blk_type h4 hL6) (by decide)))
        have K6 := hide ((ArS.to0 K5.out k6 hwB).step kx (fun b hb e => by omega))
        have hB6 := Nat.le_trans hB5 (Nat.le_trans k6.size kx.size)
        have HV6 := hide (v6.more (show (j : Int) ≤ (j : Int) + 1 by omega))
        have HH6 := hide (HH3.out.gone g6)
        have HS6 := hide (g6.shape.trans HS3.out)
        obtain ⟨⟨r0, r1, r2⟩, _, hX6⟩ := HX6.out.three
        have hiI : (x.1 : Int) < (n : Int) := by omega
        have hi0 : (0 : Int) ≤ (x.1 : Int) := by omega
        have t1 : decide ((x.1 : Int) < 0) = false := by simp
        have t2 : decide ((n : Int) ≤ (x.1 : Int)) = false := by simp; omega
        clear h6 v6 g6 k6 kx hset hL6 HX O5b HC HA5 O5 HL5 K5 HX6 HH3 HS3 HV3 HLVx
        go_upto_region 23 with fail
        trace "FREE23"
        generalize w6.setCell _ _ = w7 at *
        clear r0 r1 r2 hX6 hcv hfv hv6 hiI hi0 t1 t2
        have hk61 : k3 - 1 ≤ j + 1 := by omega
        go_wp2_with fail
        trace "USAGE"
        have hU := usage_inv B0 a s6 L6 _ w7 HA6.out HV6.out
        have hcn := cls_len HS6.out HLn.out
        rw [hcn] at hU
        obtain ⟨fa, hfa⟩ : ∃ fa, fa = s6.faults := ⟨_, rfl⟩
        rw [← hfa] at hU
        clear hfa hcn
        refine hU.mono ?_
        rintro e w7 ⟨DU, mU, rfl, oU, kU⟩
        have kb := Keeps.trans kU ((Keeps.refl (fun _ => False) w7).alloc (.cells #[.slice DU n mU, .int .i64 (bytesN s6.cls n), .int .i64 fa] 46))
        have HX8 := hide (Blk.new w7 46 #[.slice DU n mU, .int .i64 (bytesN s6.cls n), .int .i64 fa])
        have OU8 := hide ((oU.kept ((Keeps.refl (fun _ => False) w7).alloc (.cells #[.slice DU n mU, .int .i64 (bytesN s6.cls n), .int .i64 fa] 46)) (fun _ _ h => h)).rd (by omega))
        have HL8 := hide (HL6.out.kept kb (fun h => h))
        have K8 := hide (K6.out.trans kb)
        have HA8 := hide (HA6.out.quiet kb)
        have O8 := hide (O6.out.kept kb (fun _ _ h => h))
        have hB8 := Nat.le_trans hB6 kb.size
        clear hU kU oU kb HA6 HL6 O6 K6
        go_upto_region 25 with fail
        trace "R25"
        generalize w7.alloc _ = w8 at *
        generalize w7.heap.size = X at *
        go_wp2_with fail
        trace "INNER"
        go_loopw [16, 17, 18, 141] (fun bv _ _ iv w' => ∃ (p nq : Nat), p ≤ n ∧ iv = .int .i64 p ∧ bv = .int .i64 (bytesN s6.cls p) ∧ w' = w8.drewN nq) (fun _ _ _ iv _ => n - (intOf iv).toNat)
        case atStart => exact ⟨0, 0, by omega, rfl, rfl, rfl⟩
        case round =>
          obtain ⟨p, nq, hp, rfl, rfl, rfl⟩ := hrel
          by_cases hpn : p < n
          · have HPN : Hid (p + 1 ≤ n) := hpn
            obtain ⟨c, hc⟩ : ∃ c, s6.cls[p]? = some c := ⟨s6.cls[p]'(by rw [cls_len HS6.out HLn.out]; exact hpn), by simp⟩
            obtain ⟨b0, b1, b2, b3, b4⟩ := HV6.out.bds hc
            have hbb := bytesN_bd s6 HV6.out.small p (by rw [cls_len HS6.out HLn.out]; exact hp)
            have HBN : Hid (bytesN s6.cls (p + 1) = bytesN s6.cls p + c.live * c.size) := by show _ = _; simp [bytesN, List.getD, hc]
            have p1 : 0 ≤ c.live * c.size := Int.mul_nonneg b0 (by omega)
            have p2 : c.live * c.size ≤ 65536 * 4096 := Int.mul_le_mul b1 b3 (by omega) (by omega)
            obtain ⟨pr, hpr⟩ : ∃ pr, pr = c.live * c.size := ⟨_, rfl⟩
            have wm : IntKind.i64.wrap (c.live * c.size) = pr := by rw [hpr]; exact IntWalk.i64_in _ (by omega)
            rw [← hpr] at p1 p2 HBN
            obtain ⟨bn, hbn⟩ : ∃ bn, bn = bytesN s6.cls p := ⟨_, rfl⟩
            rw [← hbn] at HBN hbb
            rw [← hbn]
            have wa : IntKind.i64.wrap (bn + pr) = bn + pr := IntWalk.i64_in _ (by omega)
            have hv := liv_cell HL8.out hc
            obtain ⟨g0, g1⟩ := prs_at (cls_at HS6.out hc)
            have hq := HO2.out.kept K8.out (fun _ _ h => h)
            have d0 := hq.cell (p * 2) (by omega)
            have d1 := hq.cell (p * 2 + 1) (by omega)
            rw [g0] at d0
            rw [g1] at d1
            dsimp only at d0 d1
            have hv8 := HL8.out.lt
            have hpI : (p : Int) < (n : Int) := by omega
            have hp0 : (0 : Int) ≤ (p : Int) := by omega
            have gt1 : decide (c.count < c.live) = false := by simp; omega
            clear hc hpr hbn g0 g1 hq
            go_wp2_with fail
            trace "IR"
            go_roundw
            case rel =>
              refine ⟨p + 1, _, HPN.out, by go_num, ?_, rfl⟩
              rw [HBN.out]
            case measure => have := HPN.out; simp [intOf]; omega
          · obtain rfl : p = n := by omega
            have hpI : ¬ ((p : Int) < (p : Int)) := by omega
            obtain ⟨⟨u0, u1, u2⟩, _, hX8⟩ := HX8.out.three
            have RL := hide (show Rd w8 w8.heap.size (some ⟨v, 0, none⟩) 1 p ((livesA s6).map (.int .i64)) from Blk.rd HL8.out (by have := cls_len HS6.out HLn.out; simp [livesA]; omega))
            go_wp2_with fail
            trace "SAME"
            refine (sameInts_any (livesA s6) _ _ p _ _ _ _ _ (OU8.out.drewN _) (RL.out.drewN _) (by omega)).mono ?_
            rintro e w9 ⟨rfl, nr, rfl⟩
            go_wp2_with fail
            trace "RND"
            go_roundw
            case rel => exact ⟨j + 1, s6, L6, A6, (k3 - 1), (m3 - 1), H', by omega, rfl, by go_num, HHn6, by omega, hide (O8.out.kept ((Keeps.refl (fun _ => False) w8).drewN _) (fun _ _ h => h)), hide (HA8.out.quiet ((Keeps.refl (fun _ => False) w8).drewN _)), hide (by have := HV6.out; push_cast; exact this), HH6, HS6, hide (HL8.out.drewN _), hide (K8.out.drewN _), hB8⟩
            case measure => simp [intOf]; omega
      · have e3 : ((bits .and .i64 z 1 == 0) = false) ∨ ((bits .and .i64 z 1 == 0) = true) ∧ ¬ (0 < k3) := by
          rcases hb : (bits .and .i64 z 1 == 0) with _ | _
          · exact .inl rfl
          · exact .inr ⟨rfl, fun h => hA ⟨hb, h⟩⟩
        rcases e3 with e3 | ⟨e3, e4⟩ <;> clear hA
        ·
          have h127 := i64_and127
          have hz2 : 0 ≤ z / 2 % 128 ∧ z / 2 % 128 < 128 := by omega
          obtain ⟨zq, hzq⟩ : ∃ zq, zq = z / 2 % 128 := ⟨_, rfl⟩
          have h127z : bits .and .i64 (z / 2) 127 = zq := by rw [hzq]; exact h127 _
          rw [← hzq] at hz2
          have wz : IntKind.i64.wrap (1 + zq) = 1 + zq := IntWalk.i64_in _ (by omega)
          clear h127 hzq
          go_upto_region 17 with fail
          trace "R17"
          (try clear e4)
          (try clear e3)
          go_wp2_with fail
          trace "ALLOC"
          refine (alloc_any B0 a s L j _ wr HA3.out HV3.out (by omega) hBr).mono ?_
          rintro e w6 hal
          rcases hal with ⟨rfl, h6, k6, _⟩ | ⟨rfl, h6, k6, _⟩ | ⟨i, q, age, s6, L6, rfl, h6, v6, g6, hage, k6, hfit⟩
          ·
            have kb := (Keeps.refl (fun _ => False) w6).alloc (.cells #[.int .i64 0, .int .i64 0, .int .i64 0] 40)
            have HA6 := hide (h6.quiet kb)
            have HV6 := hide (HV3.out.more (show (j : Int) ≤ (j : Int) + 1 by omega))
            have O6 := hide ((HO.out.kept k6 (fun _ _ h => h)).kept kb (fun _ _ h => h))
            have HL6 := hide ((HL3.out.kept k6 (fun h => h)).kept kb (fun h => h))
            have K6 := hide ((HK.out.trans k6).trans kb)
            have hB6 := Nat.le_trans hBr (Nat.le_trans k6.size kb.size)
            have HS6 := HS3
            have HH6 := HH3
            have HHn6 := HHn
            clear h6 k6 kb HO HK HA3 HV3 HL3 HS3 HH3 HHn
            go_upto_region 18 with fail
            trace "NO18"
            generalize w6.alloc _ = wx at *
            go_wp2_with fail
            trace "USAGE"
            have hU := usage_inv B0 a s L _ wx HA6.out HV6.out
            have hcn := cls_len HS6.out HLn.out
            rw [hcn] at hU
            obtain ⟨fa, hfa⟩ : ∃ fa, fa = s.faults := ⟨_, rfl⟩
            rw [← hfa] at hU
            clear hfa hcn
            refine hU.mono ?_
            rintro e w7 ⟨DU, mU, rfl, oU, kU⟩
            have kb := Keeps.trans kU ((Keeps.refl (fun _ => False) w7).alloc (.cells #[.slice DU n mU, .int .i64 (bytesN s.cls n), .int .i64 fa] 46))
            have HX8 := hide (Blk.new w7 46 #[.slice DU n mU, .int .i64 (bytesN s.cls n), .int .i64 fa])
            have OU8 := hide ((oU.kept ((Keeps.refl (fun _ => False) w7).alloc (.cells #[.slice DU n mU, .int .i64 (bytesN s.cls n), .int .i64 fa] 46)) (fun _ _ h => h)).rd (by omega))
            have HL8 := hide (HL6.out.kept kb (fun h => h))
            have K8 := hide (K6.out.trans kb)
            have HA8 := hide (HA6.out.quiet kb)
            have O8 := hide (O6.out.kept kb (fun _ _ h => h))
            have hB8 := Nat.le_trans hB6 kb.size
            clear hU kU oU kb HA6 HL6 O6 K6
            go_upto_region 25 with fail
            trace "R25"
            generalize w7.alloc _ = w8 at *
            generalize w7.heap.size = X at *
            go_wp2_with fail
            trace "INNER"
            go_loopw [16, 17, 18, 141] (fun bv _ _ iv w' => ∃ (p nq : Nat), p ≤ n ∧ iv = .int .i64 p ∧ bv = .int .i64 (bytesN s.cls p) ∧ w' = w8.drewN nq) (fun _ _ _ iv _ => n - (intOf iv).toNat)
            case atStart => exact ⟨0, 0, by omega, rfl, rfl, rfl⟩
            case round =>
              obtain ⟨p, nq, hp, rfl, rfl, rfl⟩ := hrel
              by_cases hpn : p < n
              · have HPN : Hid (p + 1 ≤ n) := hpn
                obtain ⟨c, hc⟩ : ∃ c, s.cls[p]? = some c := ⟨s.cls[p]'(by rw [cls_len HS6.out HLn.out]; exact hpn), by simp⟩
                obtain ⟨b0, b1, b2, b3, b4⟩ := HV6.out.bds hc
                have hbb := bytesN_bd s HV6.out.small p (by rw [cls_len HS6.out HLn.out]; exact hp)
                have HBN : Hid (bytesN s.cls (p + 1) = bytesN s.cls p + c.live * c.size) := by show _ = _; simp [bytesN, List.getD, hc]
                have p1 : 0 ≤ c.live * c.size := Int.mul_nonneg b0 (by omega)
                have p2 : c.live * c.size ≤ 65536 * 4096 := Int.mul_le_mul b1 b3 (by omega) (by omega)
                obtain ⟨pr, hpr⟩ : ∃ pr, pr = c.live * c.size := ⟨_, rfl⟩
                have wm : IntKind.i64.wrap (c.live * c.size) = pr := by rw [hpr]; exact IntWalk.i64_in _ (by omega)
                rw [← hpr] at p1 p2 HBN
                obtain ⟨bn, hbn⟩ : ∃ bn, bn = bytesN s.cls p := ⟨_, rfl⟩
                rw [← hbn] at HBN hbb
                rw [← hbn]
                have wa : IntKind.i64.wrap (bn + pr) = bn + pr := IntWalk.i64_in _ (by omega)
                have hv := liv_cell HL8.out hc
                obtain ⟨g0, g1⟩ := prs_at (cls_at HS6.out hc)
                have hq := HO2.out.kept K8.out (fun _ _ h => h)
                have d0 := hq.cell (p * 2) (by omega)
                have d1 := hq.cell (p * 2 + 1) (by omega)
                rw [g0] at d0
                rw [g1] at d1
                dsimp only at d0 d1
                have hv8 := HL8.out.lt
                have hpI : (p : Int) < (n : Int) := by omega
                have hp0 : (0 : Int) ≤ (p : Int) := by omega
                have gt1 : decide (c.count < c.live) = false := by simp; omega
                clear hc hpr hbn g0 g1 hq
                go_wp2_with fail
                trace "IR"
                go_roundw
                case rel =>
                  refine ⟨p + 1, _, HPN.out, by go_num, ?_, rfl⟩
                  rw [HBN.out]
                case measure => have := HPN.out; simp [intOf]; omega
              · obtain rfl : p = n := by omega
                have hpI : ¬ ((p : Int) < (p : Int)) := by omega
                obtain ⟨⟨u0, u1, u2⟩, _, hX8⟩ := HX8.out.three
                have RL := hide (show Rd w8 w8.heap.size (some ⟨v, 0, none⟩) 1 p ((livesA s).map (.int .i64)) from Blk.rd HL8.out (by have := cls_len HS6.out HLn.out; simp [livesA]; omega))
                go_wp2_with fail
                trace "SAME"
                refine (sameInts_any (livesA s) _ _ p _ _ _ _ _ (OU8.out.drewN _) (RL.out.drewN _) (by omega)).mono ?_
                rintro e w9 ⟨rfl, nr, rfl⟩
                go_wp2_with fail
                trace "RND"
                go_roundw
                case rel => exact ⟨j + 1, s, L, D3, k3, m3, H, by omega, rfl, by go_num, HHn6, by omega, hide (O8.out.kept ((Keeps.refl (fun _ => False) w8).drewN _) (fun _ _ h => h)), hide (HA8.out.quiet ((Keeps.refl (fun _ => False) w8).drewN _)), hide (by have := HV6.out; push_cast; exact this), HH6, HS6, hide (HL8.out.drewN _), hide (K8.out.drewN _), hB8⟩
                case measure => simp [intOf]; omega
          ·
            have kb := (Keeps.refl (fun _ => False) w6).alloc (.cells #[.int .i64 0, .int .i64 0, .int .i64 0] 40)
            have HA6 := hide (h6.quiet kb)
            have HV6 := hide (HV3.out.more (show (j : Int) ≤ (j : Int) + 1 by omega))
            have O6 := hide ((HO.out.kept k6 (fun _ _ h => h)).kept kb (fun _ _ h => h))
            have HL6 := hide ((HL3.out.kept k6 (fun h => h)).kept kb (fun h => h))
            have K6 := hide ((HK.out.trans k6).trans kb)
            have hB6 := Nat.le_trans hBr (Nat.le_trans k6.size kb.size)
            have HS6 := HS3
            have HH6 := HH3
            have HHn6 := HHn
            clear h6 k6 kb HO HK HA3 HV3 HL3 HS3 HH3 HHn
            go_upto_region 18 with fail
            trace "NO18"
            generalize w6.alloc _ = wx at *
            go_wp2_with fail
            trace "USAGE"
            have hU := usage_inv B0 a s L _ wx HA6.out HV6.out
            have hcn := cls_len HS6.out HLn.out
            rw [hcn] at hU
            obtain ⟨fa, hfa⟩ : ∃ fa, fa = s.faults := ⟨_, rfl⟩
            rw [← hfa] at hU
            clear hfa hcn
            refine hU.mono ?_
            rintro e w7 ⟨DU, mU, rfl, oU, kU⟩
            have kb := Keeps.trans kU ((Keeps.refl (fun _ => False) w7).alloc (.cells #[.slice DU n mU, .int .i64 (bytesN s.cls n), .int .i64 fa] 46))
            have HX8 := hide (Blk.new w7 46 #[.slice DU n mU, .int .i64 (bytesN s.cls n), .int .i64 fa])
            have OU8 := hide ((oU.kept ((Keeps.refl (fun _ => False) w7).alloc (.cells #[.slice DU n mU, .int .i64 (bytesN s.cls n), .int .i64 fa] 46)) (fun _ _ h => h)).rd (by omega))
            have HL8 := hide (HL6.out.kept kb (fun h => h))
            have K8 := hide (K6.out.trans kb)
            have HA8 := hide (HA6.out.quiet kb)
            have O8 := hide (O6.out.kept kb (fun _ _ h => h))
            have hB8 := Nat.le_trans hB6 kb.size
            clear hU kU oU kb HA6 HL6 O6 K6
            go_upto_region 25 with fail
            trace "R25"
            generalize w7.alloc _ = w8 at *
            generalize w7.heap.size = X at *
            go_wp2_with fail
            trace "INNER"
            go_loopw [16, 17, 18, 141] (fun bv _ _ iv w' => ∃ (p nq : Nat), p ≤ n ∧ iv = .int .i64 p ∧ bv = .int .i64 (bytesN s.cls p) ∧ w' = w8.drewN nq) (fun _ _ _ iv _ => n - (intOf iv).toNat)
            case atStart => exact ⟨0, 0, by omega, rfl, rfl, rfl⟩
            case round =>
              obtain ⟨p, nq, hp, rfl, rfl, rfl⟩ := hrel
              by_cases hpn : p < n
              · have HPN : Hid (p + 1 ≤ n) := hpn
                obtain ⟨c, hc⟩ : ∃ c, s.cls[p]? = some c := ⟨s.cls[p]'(by rw [cls_len HS6.out HLn.out]; exact hpn), by simp⟩
                obtain ⟨b0, b1, b2, b3, b4⟩ := HV6.out.bds hc
                have hbb := bytesN_bd s HV6.out.small p (by rw [cls_len HS6.out HLn.out]; exact hp)
                have HBN : Hid (bytesN s.cls (p + 1) = bytesN s.cls p + c.live * c.size) := by show _ = _; simp [bytesN, List.getD, hc]
                have p1 : 0 ≤ c.live * c.size := Int.mul_nonneg b0 (by omega)
                have p2 : c.live * c.size ≤ 65536 * 4096 := Int.mul_le_mul b1 b3 (by omega) (by omega)
                obtain ⟨pr, hpr⟩ : ∃ pr, pr = c.live * c.size := ⟨_, rfl⟩
                have wm : IntKind.i64.wrap (c.live * c.size) = pr := by rw [hpr]; exact IntWalk.i64_in _ (by omega)
                rw [← hpr] at p1 p2 HBN
                obtain ⟨bn, hbn⟩ : ∃ bn, bn = bytesN s.cls p := ⟨_, rfl⟩
                rw [← hbn] at HBN hbb
                rw [← hbn]
                have wa : IntKind.i64.wrap (bn + pr) = bn + pr := IntWalk.i64_in _ (by omega)
                have hv := liv_cell HL8.out hc
                obtain ⟨g0, g1⟩ := prs_at (cls_at HS6.out hc)
                have hq := HO2.out.kept K8.out (fun _ _ h => h)
                have d0 := hq.cell (p * 2) (by omega)
                have d1 := hq.cell (p * 2 + 1) (by omega)
                rw [g0] at d0
                rw [g1] at d1
                dsimp only at d0 d1
                have hv8 := HL8.out.lt
                have hpI : (p : Int) < (n : Int) := by omega
                have hp0 : (0 : Int) ≤ (p : Int) := by omega
                have gt1 : decide (c.count < c.live) = false := by simp; omega
                clear hc hpr hbn g0 g1 hq
                go_wp2_with fail
                trace "IR"
                go_roundw
                case rel =>
                  refine ⟨p + 1, _, HPN.out, by go_num, ?_, rfl⟩
                  rw [HBN.out]
                case measure => have := HPN.out; simp [intOf]; omega
              · obtain rfl : p = n := by omega
                have hpI : ¬ ((p : Int) < (p : Int)) := by omega
                obtain ⟨⟨u0, u1, u2⟩, _, hX8⟩ := HX8.out.three
                have RL := hide (show Rd w8 w8.heap.size (some ⟨v, 0, none⟩) 1 p ((livesA s).map (.int .i64)) from Blk.rd HL8.out (by have := cls_len HS6.out HLn.out; simp [livesA]; omega))
                go_wp2_with fail
                trace "SAME"
                refine (sameInts_any (livesA s) _ _ p _ _ _ _ _ (OU8.out.drewN _) (RL.out.drewN _) (by omega)).mono ?_
                rintro e w9 ⟨rfl, nr, rfl⟩
                go_wp2_with fail
                trace "RND"
                go_roundw
                case rel => exact ⟨j + 1, s, L, D3, k3, m3, H, by omega, rfl, by go_num, HHn6, by omega, hide (O8.out.kept ((Keeps.refl (fun _ => False) w8).drewN _) (fun _ _ h => h)), hide (HA8.out.quiet ((Keeps.refl (fun _ => False) w8).drewN _)), hide (by have := HV6.out; push_cast; exact this), HH6, HS6, hide (HL8.out.drewN _), hide (K8.out.drewN _), hB8⟩
                case measure => simp [intOf]; omega
          ·
            obtain ⟨c, hc, hcs, hcl⟩ := g6.fit
            obtain ⟨f0, f1, f2, f3, f4⟩ := HV3.out.bds hc
            have hxi : i < n := by rw [← cls_len HS3.out HLn.out]; exact (List.getElem?_eq_some_iff.1 hc).1
            have HX6 := hide (Blk.new w6 40 #[.int .i64 i, .int .i64 q, .int .i64 age])
            have kb := (Keeps.refl (fun _ => False) w6).alloc (.cells #[.int .i64 i, .int .i64 q, .int .i64 age] 40)
            have hL6 := (HL3.out.kept k6 (ArS.not HL3.out (by decide) (by decide) (by decide))).kept kb (fun h => h)
            have HL6 := hide hL6
            have O6 := hide ((HO.out.kept k6 (fun b hb => HO.out.ar hb)).kept kb (fun _ _ h => h))
            have hcv := liv_cell hL6 hc
            have HLc : Hid ((livCs s)[i]? = some (.int .i64 c.live)) := hide (by rw [← hL6.cell]; exact hcv)
            have hfv := hL6.frozen i
            have hv6 := hL6.lt
            have HA6 := hide (h6.quiet kb)
            have K6 := hide ((ArS.to0 HK.out k6 hwB).trans kb)
            have hB6 := Nat.le_trans hBr (Nat.le_trans k6.size kb.size)
            obtain ⟨g0, g1⟩ := prs_at (cls_at HS3.out hc)
            have d0 := (HO2.out.kept K6.out (fun _ _ h => h)).cell (i * 2) (by omega)
            rw [g0] at d0
            dsimp only at d0
            have wl : IntKind.i64.wrap (c.live + 1) = c.live + 1 := IntWalk.i64_in _ (by omega)
            have HLv6 : Hid (livesA s6 = (livesA s).set i (c.live + 1)) := hide (by rw [g6.lives, liv_getD hc])
            have HV6 := hide v6
            have HH6 := hide (HH3.out.got g6)
            have HS6 := hide (g6.shape.trans HS3.out)
            have hc2 := (HD2.out.kept K6.out (fun b hb h => h))
            have HHn6 : Hid ((H ++ [(i, q, age)]).length = k3 + 1) := by show _ = _; rw [List.length_append, HHn.out]; rfl
            have hiI : (i : Int) < (n : Int) := by omega
            have hi0 : (0 : Int) ≤ (i : Int) := by omega
            have t1 : decide ((i : Int) < 0) = false := by simp
            have t2 : decide ((n : Int) ≤ (i : Int)) = false := by simp; omega
            have t3 : decide (c.size < 1 + zq) = false := by simp; omega
            have hc3 := hc1
            clear hc1
            obtain ⟨_, _, hbo, _, hcell2⟩ := hc2.2 (by omega)
            injection hbo with hbo
            injection hbo with hbo1 hbo2
            subst hbo1 hbo2
            have hc1 := hcell2 j (.int .i64 z) (by rw [List.getElem?_map, HZe.out]; rfl)
            obtain ⟨⟨r0, r1, r2⟩, _, hX6⟩ := HX6.out.three
            clear hc hcs hcl h6 v6 g6 k6 kb HO HK HA3 HV3 HL3 HS3 HH3 HHn g0 g1 hc2 hcell2 hc3 hL6 hfit
            go_upto_region 18 with fail
            trace "OK18"
            generalize w6.alloc _ = w7 at *
            generalize w6.heap.size = X at *
            go_upto_region 19 with fail
            trace "OK19"
            go_quiet (fail)
            trace "OK20"
            go_upto_region 21 with fail
            trace "OK21"
            generalize hwq : w7.drewN _ = w7b at *
            have kq : Keeps (fun _ => False) w7 w7b := by rw [← hwq]; exact (Keeps.refl _ _).drewN _
            clear hwq hcv hfv hv6 r0 r1 r2 hX6 d0 hc1
            have hL7b := HL6.out.kept kq (fun h => h)
            have HX7b := hide (HX6.out.kept kq (fun h => h))
            have hcv := hL7b.cell i
            rw [HLc.out] at hcv
            have hfv := hL7b.frozen i
            have hv6 := hL7b.lt
            obtain ⟨⟨r0, r1, r2⟩, _, hX6⟩ := HX7b.out.three
            have kx := keepsOne w7b v i (.int .i64 (c.live + 1))
            have hset := hL7b.set i (.int .i64 (c.live + 1))
            rw [liv_set s s6 i (c.live + 1) HLv6.out] at hset
            have HA7 := hide ((HA6.out.quiet kq).kept kx (fun b hb => by subst hb; exact .inr ⟨_, _, hL7b, by decide, by decide, by decide, by decide⟩))
            have HL7 := hide hset
            have O7 := hide ((O6.out.kept kq (fun _ _ h => h)).kept kx (fun b hb e => by obtain ⟨cs, h4⟩ := (O6.out.kept kq (fun _ _ h => h)).blk hb; subst e; exact absurd (blk_type h4 hL7b) (by decide)))
            have K7 := hide ((K6.out.trans kq).step kx (fun b hb e => by omega))
            have hB7 := Nat.le_trans (Nat.le_trans hB6 kq.size) kx.size
            have HX7 := hide (HX7b.out.kept kx (fun e => by have := blk_type hL7b (e ▸ HX7b.out); exact absurd this (by decide)))
            clear kx hset HA6 HL6 O6 K6 HX6 hB6 hL7b HX7b kq
            go_upto_region 22 with fail
            trace "OK22"
            clear hcv hfv hv6 r0 r1 r2 hX6
            generalize w7b.setCell _ _ = w8 at *
            obtain ⟨⟨r0, r1, r2⟩, _, hX6⟩ := HX7.out.three
            have hv8 := HL7.out.lt
            go_upto_region 23 with (at_builtin; refine wpList_appT _ elemH rfl (.tmp 133) (.tmp 135) rfl w2.heap.size _ rfl (O7.out.kept ((Keeps.refl (fun _ => False) w8).alloc _) (fun _ _ h => h)) _ (m := 1) [.int .i64 i, .int .i64 q, .int .i64 age] rfl (by exact Blk.rd (xs := [.int .i64 i, .int .i64 q, .int .i64 age]) (Blk.new_at _ _ _ _ (by simp)) rfl) (by omega) (by simp [Value.oneCell']) (by simp only [maxLen]; omega) (by omega) (by simp; omega) ?_; intro A8 c8 w10 o8 k8 hA8; have hkA := (Keeps.refl (fun _ => False) w8).alloc (.cells #[.int .i64 i, .int .i64 q, .int .i64 age] 40); have OA := hide (O7.out.kept hkA (fun _ _ h => h)); have O6 := hide o8; have HA6 := hide (IsAr.kept (HA7.out.quiet hkA) k8 (fun b hb => by obtain ⟨cs, h4⟩ := OA.out.blk hb; exact .inr ⟨_, _, h4, by decide, by decide, by decide, by decide⟩)); have HL6 := hide ((HL7.out.kept hkA (fun h => h)).kept k8 (fun h => by obtain ⟨cs, h4⟩ := OA.out.blk h; exact absurd (blk_type h4 (HL7.out.kept hkA (fun h => h))) (by decide))); have K6 := hide ((K7.out.trans hkA).step k8 (fun b hb h => by have := (OA.out.inB h).1; omega)); have hB6 := Nat.le_trans hB7 (Nat.le_trans hkA.size k8.size); have O6 : Hid (OwnT w10 w2.heap.size 40 3 A8 (k3 + 1) c8 (hdCs (H ++ [(i, q, age)]))) := (by show OwnT _ _ _ _ _ _ _ _; rw [hdCs_app]; exact o8); clear o8 k8 hA8 hkA OA)
            trace "OK23"
            clear HA7 HL7 O7 K7 hB7 HX7 r0 r1 r2 hX6 hv8
            have hk61 : k3 + 1 ≤ j + 1 := by omega
            go_wp2_with fail
            trace "USAGE"
            have hU := usage_inv B0 a s6 L6 _ w10 HA6.out HV6.out
            have hcn := cls_len HS6.out HLn.out
            rw [hcn] at hU
            obtain ⟨fa, hfa⟩ : ∃ fa, fa = s6.faults := ⟨_, rfl⟩
            rw [← hfa] at hU
            clear hfa hcn
            refine hU.mono ?_
            rintro e w7 ⟨DU, mU, rfl, oU, kU⟩
            have kb := Keeps.trans kU ((Keeps.refl (fun _ => False) w7).alloc (.cells #[.slice DU n mU, .int .i64 (bytesN s6.cls n), .int .i64 fa] 46))
            have HX8 := hide (Blk.new w7 46 #[.slice DU n mU, .int .i64 (bytesN s6.cls n), .int .i64 fa])
            have OU8 := hide ((oU.kept ((Keeps.refl (fun _ => False) w7).alloc (.cells #[.slice DU n mU, .int .i64 (bytesN s6.cls n), .int .i64 fa] 46)) (fun _ _ h => h)).rd (by omega))
            have HL8 := hide (HL6.out.kept kb (fun h => h))
            have K8 := hide (K6.out.trans kb)
            have HA8 := hide (HA6.out.quiet kb)
            have O8 := hide (O6.out.kept kb (fun _ _ h => h))
            have hB8 := Nat.le_trans hB6 kb.size
            clear hU kU oU kb HA6 HL6 O6 K6
            go_upto_region 25 with fail
            trace "R25"
            generalize w7.alloc _ = w8 at *
            generalize w7.heap.size = X at *
            go_wp2_with fail
            trace "INNER"
            go_loopw [16, 17, 18, 141] (fun bv _ _ iv w' => ∃ (p nq : Nat), p ≤ n ∧ iv = .int .i64 p ∧ bv = .int .i64 (bytesN s6.cls p) ∧ w' = w8.drewN nq) (fun _ _ _ iv _ => n - (intOf iv).toNat)
            case atStart => exact ⟨0, 0, by omega, rfl, rfl, rfl⟩
            case round =>
              obtain ⟨p, nq, hp, rfl, rfl, rfl⟩ := hrel
              by_cases hpn : p < n
              · have HPN : Hid (p + 1 ≤ n) := hpn
                obtain ⟨c, hc⟩ : ∃ c, s6.cls[p]? = some c := ⟨s6.cls[p]'(by rw [cls_len HS6.out HLn.out]; exact hpn), by simp⟩
                obtain ⟨b0, b1, b2, b3, b4⟩ := HV6.out.bds hc
                have hbb := bytesN_bd s6 HV6.out.small p (by rw [cls_len HS6.out HLn.out]; exact hp)
                have HBN : Hid (bytesN s6.cls (p + 1) = bytesN s6.cls p + c.live * c.size) := by show _ = _; simp [bytesN, List.getD, hc]
                have p1 : 0 ≤ c.live * c.size := Int.mul_nonneg b0 (by omega)
                have p2 : c.live * c.size ≤ 65536 * 4096 := Int.mul_le_mul b1 b3 (by omega) (by omega)
                obtain ⟨pr, hpr⟩ : ∃ pr, pr = c.live * c.size := ⟨_, rfl⟩
                have wm : IntKind.i64.wrap (c.live * c.size) = pr := by rw [hpr]; exact IntWalk.i64_in _ (by omega)
                rw [← hpr] at p1 p2 HBN
                obtain ⟨bn, hbn⟩ : ∃ bn, bn = bytesN s6.cls p := ⟨_, rfl⟩
                rw [← hbn] at HBN hbb
                rw [← hbn]
                have wa : IntKind.i64.wrap (bn + pr) = bn + pr := IntWalk.i64_in _ (by omega)
                have hv := liv_cell HL8.out hc
                obtain ⟨g0, g1⟩ := prs_at (cls_at HS6.out hc)
                have hq := HO2.out.kept K8.out (fun _ _ h => h)
                have d0 := hq.cell (p * 2) (by omega)
                have d1 := hq.cell (p * 2 + 1) (by omega)
                rw [g0] at d0
                rw [g1] at d1
                dsimp only at d0 d1
                have hv8 := HL8.out.lt
                have hpI : (p : Int) < (n : Int) := by omega
                have hp0 : (0 : Int) ≤ (p : Int) := by omega
                have gt1 : decide (c.count < c.live) = false := by simp; omega
                clear hc hpr hbn g0 g1 hq
                go_wp2_with fail
                trace "IR"
                go_roundw
                case rel =>
                  refine ⟨p + 1, _, HPN.out, by go_num, ?_, rfl⟩
                  rw [HBN.out]
                case measure => have := HPN.out; simp [intOf]; omega
              · obtain rfl : p = n := by omega
                have hpI : ¬ ((p : Int) < (p : Int)) := by omega
                obtain ⟨⟨u0, u1, u2⟩, _, hX8⟩ := HX8.out.three
                have RL := hide (show Rd w8 w8.heap.size (some ⟨v, 0, none⟩) 1 p ((livesA s6).map (.int .i64)) from Blk.rd HL8.out (by have := cls_len HS6.out HLn.out; simp [livesA]; omega))
                go_wp2_with fail
                trace "SAME"
                refine (sameInts_any (livesA s6) _ _ p _ _ _ _ _ (OU8.out.drewN _) (RL.out.drewN _) (by omega)).mono ?_
                rintro e w9 ⟨rfl, nr, rfl⟩
                go_wp2_with fail
                trace "RND"
                go_roundw
                case rel => exact ⟨j + 1, s6, L6, A8, (k3 + 1), c8, (H ++ [(i, q, age)]), by omega, rfl, by go_num, HHn6, by omega, hide (O8.out.kept ((Keeps.refl (fun _ => False) w8).drewN _) (fun _ _ h => h)), hide (HA8.out.quiet ((Keeps.refl (fun _ => False) w8).drewN _)), hide (by have := HV6.out; push_cast; exact this), HH6, HS6, hide (HL8.out.drewN _), hide (K8.out.drewN _), hB8⟩
                case measure => simp [intOf]; omega
        ·
          have h127 := i64_and127
          have hz2 : 0 ≤ z / 2 % 128 ∧ z / 2 % 128 < 128 := by omega
          obtain ⟨zq, hzq⟩ : ∃ zq, zq = z / 2 % 128 := ⟨_, rfl⟩
          have h127z : bits .and .i64 (z / 2) 127 = zq := by rw [hzq]; exact h127 _
          rw [← hzq] at hz2
          have wz : IntKind.i64.wrap (1 + zq) = 1 + zq := IntWalk.i64_in _ (by omega)
          clear h127 hzq
          go_upto_region 17 with fail
          trace "R17"
          (try clear e4)
          (try clear e3)
          go_wp2_with fail
          trace "ALLOC"
          refine (alloc_any B0 a s L j _ wr HA3.out HV3.out (by omega) hBr).mono ?_
          rintro e w6 hal
          rcases hal with ⟨rfl, h6, k6, _⟩ | ⟨rfl, h6, k6, _⟩ | ⟨i, q, age, s6, L6, rfl, h6, v6, g6, hage, k6, hfit⟩
          ·
            have kb := (Keeps.refl (fun _ => False) w6).alloc (.cells #[.int .i64 0, .int .i64 0, .int .i64 0] 40)
            have HA6 := hide (h6.quiet kb)
            have HV6 := hide (HV3.out.more (show (j : Int) ≤ (j : Int) + 1 by omega))
            have O6 := hide ((HO.out.kept k6 (fun _ _ h => h)).kept kb (fun _ _ h => h))
            have HL6 := hide ((HL3.out.kept k6 (fun h => h)).kept kb (fun h => h))
            have K6 := hide ((HK.out.trans k6).trans kb)
            have hB6 := Nat.le_trans hBr (Nat.le_trans k6.size kb.size)
            have HS6 := HS3
            have HH6 := HH3
            have HHn6 := HHn
            clear h6 k6 kb HO HK HA3 HV3 HL3 HS3 HH3 HHn
            go_upto_region 18 with fail
            trace "NO18"
            generalize w6.alloc _ = wx at *
            go_wp2_with fail
            trace "USAGE"
            have hU := usage_inv B0 a s L _ wx HA6.out HV6.out
            have hcn := cls_len HS6.out HLn.out
            rw [hcn] at hU
            obtain ⟨fa, hfa⟩ : ∃ fa, fa = s.faults := ⟨_, rfl⟩
            rw [← hfa] at hU
            clear hfa hcn
            refine hU.mono ?_
            rintro e w7 ⟨DU, mU, rfl, oU, kU⟩
            have kb := Keeps.trans kU ((Keeps.refl (fun _ => False) w7).alloc (.cells #[.slice DU n mU, .int .i64 (bytesN s.cls n), .int .i64 fa] 46))
            have HX8 := hide (Blk.new w7 46 #[.slice DU n mU, .int .i64 (bytesN s.cls n), .int .i64 fa])
            have OU8 := hide ((oU.kept ((Keeps.refl (fun _ => False) w7).alloc (.cells #[.slice DU n mU, .int .i64 (bytesN s.cls n), .int .i64 fa] 46)) (fun _ _ h => h)).rd (by omega))
            have HL8 := hide (HL6.out.kept kb (fun h => h))
            have K8 := hide (K6.out.trans kb)
            have HA8 := hide (HA6.out.quiet kb)
            have O8 := hide (O6.out.kept kb (fun _ _ h => h))
            have hB8 := Nat.le_trans hB6 kb.size
            clear hU kU oU kb HA6 HL6 O6 K6
            go_upto_region 25 with fail
            trace "R25"
            generalize w7.alloc _ = w8 at *
            generalize w7.heap.size = X at *
            go_wp2_with fail
            trace "INNER"
            go_loopw [16, 17, 18, 141] (fun bv _ _ iv w' => ∃ (p nq : Nat), p ≤ n ∧ iv = .int .i64 p ∧ bv = .int .i64 (bytesN s.cls p) ∧ w' = w8.drewN nq) (fun _ _ _ iv _ => n - (intOf iv).toNat)
            case atStart => exact ⟨0, 0, by omega, rfl, rfl, rfl⟩
            case round =>
              obtain ⟨p, nq, hp, rfl, rfl, rfl⟩ := hrel
              by_cases hpn : p < n
              · have HPN : Hid (p + 1 ≤ n) := hpn
                obtain ⟨c, hc⟩ : ∃ c, s.cls[p]? = some c := ⟨s.cls[p]'(by rw [cls_len HS6.out HLn.out]; exact hpn), by simp⟩
                obtain ⟨b0, b1, b2, b3, b4⟩ := HV6.out.bds hc
                have hbb := bytesN_bd s HV6.out.small p (by rw [cls_len HS6.out HLn.out]; exact hp)
                have HBN : Hid (bytesN s.cls (p + 1) = bytesN s.cls p + c.live * c.size) := by show _ = _; simp [bytesN, List.getD, hc]
                have p1 : 0 ≤ c.live * c.size := Int.mul_nonneg b0 (by omega)
                have p2 : c.live * c.size ≤ 65536 * 4096 := Int.mul_le_mul b1 b3 (by omega) (by omega)
                obtain ⟨pr, hpr⟩ : ∃ pr, pr = c.live * c.size := ⟨_, rfl⟩
                have wm : IntKind.i64.wrap (c.live * c.size) = pr := by rw [hpr]; exact IntWalk.i64_in _ (by omega)
                rw [← hpr] at p1 p2 HBN
                obtain ⟨bn, hbn⟩ : ∃ bn, bn = bytesN s.cls p := ⟨_, rfl⟩
                rw [← hbn] at HBN hbb
                rw [← hbn]
                have wa : IntKind.i64.wrap (bn + pr) = bn + pr := IntWalk.i64_in _ (by omega)
                have hv := liv_cell HL8.out hc
                obtain ⟨g0, g1⟩ := prs_at (cls_at HS6.out hc)
                have hq := HO2.out.kept K8.out (fun _ _ h => h)
                have d0 := hq.cell (p * 2) (by omega)
                have d1 := hq.cell (p * 2 + 1) (by omega)
                rw [g0] at d0
                rw [g1] at d1
                dsimp only at d0 d1
                have hv8 := HL8.out.lt
                have hpI : (p : Int) < (n : Int) := by omega
                have hp0 : (0 : Int) ≤ (p : Int) := by omega
                have gt1 : decide (c.count < c.live) = false := by simp; omega
                clear hc hpr hbn g0 g1 hq
                go_wp2_with fail
                trace "IR"
                go_roundw
                case rel =>
                  refine ⟨p + 1, _, HPN.out, by go_num, ?_, rfl⟩
                  rw [HBN.out]
                case measure => have := HPN.out; simp [intOf]; omega
              · obtain rfl : p = n := by omega
                have hpI : ¬ ((p : Int) < (p : Int)) := by omega
                obtain ⟨⟨u0, u1, u2⟩, _, hX8⟩ := HX8.out.three
                have RL := hide (show Rd w8 w8.heap.size (some ⟨v, 0, none⟩) 1 p ((livesA s).map (.int .i64)) from Blk.rd HL8.out (by have := cls_len HS6.out HLn.out; simp [livesA]; omega))
                go_wp2_with fail
                trace "SAME"
                refine (sameInts_any (livesA s) _ _ p _ _ _ _ _ (OU8.out.drewN _) (RL.out.drewN _) (by omega)).mono ?_
                rintro e w9 ⟨rfl, nr, rfl⟩
                go_wp2_with fail
                trace "RND"
                go_roundw
                case rel => exact ⟨j + 1, s, L, D3, k3, m3, H, by omega, rfl, by go_num, HHn6, by omega, hide (O8.out.kept ((Keeps.refl (fun _ => False) w8).drewN _) (fun _ _ h => h)), hide (HA8.out.quiet ((Keeps.refl (fun _ => False) w8).drewN _)), hide (by have := HV6.out; push_cast; exact this), HH6, HS6, hide (HL8.out.drewN _), hide (K8.out.drewN _), hB8⟩
                case measure => simp [intOf]; omega
          ·
            have kb := (Keeps.refl (fun _ => False) w6).alloc (.cells #[.int .i64 0, .int .i64 0, .int .i64 0] 40)
            have HA6 := hide (h6.quiet kb)
            have HV6 := hide (HV3.out.more (show (j : Int) ≤ (j : Int) + 1 by omega))
            have O6 := hide ((HO.out.kept k6 (fun _ _ h => h)).kept kb (fun _ _ h => h))
            have HL6 := hide ((HL3.out.kept k6 (fun h => h)).kept kb (fun h => h))
            have K6 := hide ((HK.out.trans k6).trans kb)
            have hB6 := Nat.le_trans hBr (Nat.le_trans k6.size kb.size)
            have HS6 := HS3
            have HH6 := HH3
            have HHn6 := HHn
            clear h6 k6 kb HO HK HA3 HV3 HL3 HS3 HH3 HHn
            go_upto_region 18 with fail
            trace "NO18"
            generalize w6.alloc _ = wx at *
            go_wp2_with fail
            trace "USAGE"
            have hU := usage_inv B0 a s L _ wx HA6.out HV6.out
            have hcn := cls_len HS6.out HLn.out
            rw [hcn] at hU
            obtain ⟨fa, hfa⟩ : ∃ fa, fa = s.faults := ⟨_, rfl⟩
            rw [← hfa] at hU
            clear hfa hcn
            refine hU.mono ?_
            rintro e w7 ⟨DU, mU, rfl, oU, kU⟩
            have kb := Keeps.trans kU ((Keeps.refl (fun _ => False) w7).alloc (.cells #[.slice DU n mU, .int .i64 (bytesN s.cls n), .int .i64 fa] 46))
            have HX8 := hide (Blk.new w7 46 #[.slice DU n mU, .int .i64 (bytesN s.cls n), .int .i64 fa])
            have OU8 := hide ((oU.kept ((Keeps.refl (fun _ => False) w7).alloc (.cells #[.slice DU n mU, .int .i64 (bytesN s.cls n), .int .i64 fa] 46)) (fun _ _ h => h)).rd (by omega))
            have HL8 := hide (HL6.out.kept kb (fun h => h))
            have K8 := hide (K6.out.trans kb)
            have HA8 := hide (HA6.out.quiet kb)
            have O8 := hide (O6.out.kept kb (fun _ _ h => h))
            have hB8 := Nat.le_trans hB6 kb.size
            clear hU kU oU kb HA6 HL6 O6 K6
            go_upto_region 25 with fail
            trace "R25"
            generalize w7.alloc _ = w8 at *
            generalize w7.heap.size = X at *
            go_wp2_with fail
            trace "INNER"
            go_loopw [16, 17, 18, 141] (fun bv _ _ iv w' => ∃ (p nq : Nat), p ≤ n ∧ iv = .int .i64 p ∧ bv = .int .i64 (bytesN s.cls p) ∧ w' = w8.drewN nq) (fun _ _ _ iv _ => n - (intOf iv).toNat)
            case atStart => exact ⟨0, 0, by omega, rfl, rfl, rfl⟩
            case round =>
              obtain ⟨p, nq, hp, rfl, rfl, rfl⟩ := hrel
              by_cases hpn : p < n
              · have HPN : Hid (p + 1 ≤ n) := hpn
                obtain ⟨c, hc⟩ : ∃ c, s.cls[p]? = some c := ⟨s.cls[p]'(by rw [cls_len HS6.out HLn.out]; exact hpn), by simp⟩
                obtain ⟨b0, b1, b2, b3, b4⟩ := HV6.out.bds hc
                have hbb := bytesN_bd s HV6.out.small p (by rw [cls_len HS6.out HLn.out]; exact hp)
                have HBN : Hid (bytesN s.cls (p + 1) = bytesN s.cls p + c.live * c.size) := by show _ = _; simp [bytesN, List.getD, hc]
                have p1 : 0 ≤ c.live * c.size := Int.mul_nonneg b0 (by omega)
                have p2 : c.live * c.size ≤ 65536 * 4096 := Int.mul_le_mul b1 b3 (by omega) (by omega)
                obtain ⟨pr, hpr⟩ : ∃ pr, pr = c.live * c.size := ⟨_, rfl⟩
                have wm : IntKind.i64.wrap (c.live * c.size) = pr := by rw [hpr]; exact IntWalk.i64_in _ (by omega)
                rw [← hpr] at p1 p2 HBN
                obtain ⟨bn, hbn⟩ : ∃ bn, bn = bytesN s.cls p := ⟨_, rfl⟩
                rw [← hbn] at HBN hbb
                rw [← hbn]
                have wa : IntKind.i64.wrap (bn + pr) = bn + pr := IntWalk.i64_in _ (by omega)
                have hv := liv_cell HL8.out hc
                obtain ⟨g0, g1⟩ := prs_at (cls_at HS6.out hc)
                have hq := HO2.out.kept K8.out (fun _ _ h => h)
                have d0 := hq.cell (p * 2) (by omega)
                have d1 := hq.cell (p * 2 + 1) (by omega)
                rw [g0] at d0
                rw [g1] at d1
                dsimp only at d0 d1
                have hv8 := HL8.out.lt
                have hpI : (p : Int) < (n : Int) := by omega
                have hp0 : (0 : Int) ≤ (p : Int) := by omega
                have gt1 : decide (c.count < c.live) = false := by simp; omega
                clear hc hpr hbn g0 g1 hq
                go_wp2_with fail
                trace "IR"
                go_roundw
                case rel =>
                  refine ⟨p + 1, _, HPN.out, by go_num, ?_, rfl⟩
                  rw [HBN.out]
                case measure => have := HPN.out; simp [intOf]; omega
              · obtain rfl : p = n := by omega
                have hpI : ¬ ((p : Int) < (p : Int)) := by omega
                obtain ⟨⟨u0, u1, u2⟩, _, hX8⟩ := HX8.out.three
                have RL := hide (show Rd w8 w8.heap.size (some ⟨v, 0, none⟩) 1 p ((livesA s).map (.int .i64)) from Blk.rd HL8.out (by have := cls_len HS6.out HLn.out; simp [livesA]; omega))
                go_wp2_with fail
                trace "SAME"
                refine (sameInts_any (livesA s) _ _ p _ _ _ _ _ (OU8.out.drewN _) (RL.out.drewN _) (by omega)).mono ?_
                rintro e w9 ⟨rfl, nr, rfl⟩
                go_wp2_with fail
                trace "RND"
                go_roundw
                case rel => exact ⟨j + 1, s, L, D3, k3, m3, H, by omega, rfl, by go_num, HHn6, by omega, hide (O8.out.kept ((Keeps.refl (fun _ => False) w8).drewN _) (fun _ _ h => h)), hide (HA8.out.quiet ((Keeps.refl (fun _ => False) w8).drewN _)), hide (by have := HV6.out; push_cast; exact this), HH6, HS6, hide (HL8.out.drewN _), hide (K8.out.drewN _), hB8⟩
                case measure => simp [intOf]; omega
          ·
            obtain ⟨c, hc, hcs, hcl⟩ := g6.fit
            obtain ⟨f0, f1, f2, f3, f4⟩ := HV3.out.bds hc
            have hxi : i < n := by rw [← cls_len HS3.out HLn.out]; exact (List.getElem?_eq_some_iff.1 hc).1
            have HX6 := hide (Blk.new w6 40 #[.int .i64 i, .int .i64 q, .int .i64 age])
            have kb := (Keeps.refl (fun _ => False) w6).alloc (.cells #[.int .i64 i, .int .i64 q, .int .i64 age] 40)
            have hL6 := (HL3.out.kept k6 (ArS.not HL3.out (by decide) (by decide) (by decide))).kept kb (fun h => h)
            have HL6 := hide hL6
            have O6 := hide ((HO.out.kept k6 (fun b hb => HO.out.ar hb)).kept kb (fun _ _ h => h))
            have hcv := liv_cell hL6 hc
            have HLc : Hid ((livCs s)[i]? = some (.int .i64 c.live)) := hide (by rw [← hL6.cell]; exact hcv)
            have hfv := hL6.frozen i
            have hv6 := hL6.lt
            have HA6 := hide (h6.quiet kb)
            have K6 := hide ((ArS.to0 HK.out k6 hwB).trans kb)
            have hB6 := Nat.le_trans hBr (Nat.le_trans k6.size kb.size)
            obtain ⟨g0, g1⟩ := prs_at (cls_at HS3.out hc)
            have d0 := (HO2.out.kept K6.out (fun _ _ h => h)).cell (i * 2) (by omega)
            rw [g0] at d0
            dsimp only at d0
            have wl : IntKind.i64.wrap (c.live + 1) = c.live + 1 := IntWalk.i64_in _ (by omega)
            have HLv6 : Hid (livesA s6 = (livesA s).set i (c.live + 1)) := hide (by rw [g6.lives, liv_getD hc])
            have HV6 := hide v6
            have HH6 := hide (HH3.out.got g6)
            have HS6 := hide (g6.shape.trans HS3.out)
            have hc2 := (HD2.out.kept K6.out (fun b hb h => h))
            have HHn6 : Hid ((H ++ [(i, q, age)]).length = k3 + 1) := by show _ = _; rw [List.length_append, HHn.out]; rfl
            have hiI : (i : Int) < (n : Int) := by omega
            have hi0 : (0 : Int) ≤ (i : Int) := by omega
            have t1 : decide ((i : Int) < 0) = false := by simp
            have t2 : decide ((n : Int) ≤ (i : Int)) = false := by simp; omega
            have t3 : decide (c.size < 1 + zq) = false := by simp; omega
            have hc3 := hc1
            clear hc1
            obtain ⟨_, _, hbo, _, hcell2⟩ := hc2.2 (by omega)
            injection hbo with hbo
            injection hbo with hbo1 hbo2
            subst hbo1 hbo2
            have hc1 := hcell2 j (.int .i64 z) (by rw [List.getElem?_map, HZe.out]; rfl)
            obtain ⟨⟨r0, r1, r2⟩, _, hX6⟩ := HX6.out.three
            clear hc hcs hcl h6 v6 g6 k6 kb HO HK HA3 HV3 HL3 HS3 HH3 HHn g0 g1 hc2 hcell2 hc3 hL6 hfit
            go_upto_region 18 with fail
            trace "OK18"
            generalize w6.alloc _ = w7 at *
            generalize w6.heap.size = X at *
            go_upto_region 19 with fail
            trace "OK19"
            go_quiet (fail)
            trace "OK20"
            go_upto_region 21 with fail
            trace "OK21"
            generalize hwq : w7.drewN _ = w7b at *
            have kq : Keeps (fun _ => False) w7 w7b := by rw [← hwq]; exact (Keeps.refl _ _).drewN _
            clear hwq hcv hfv hv6 r0 r1 r2 hX6 d0 hc1
            have hL7b := HL6.out.kept kq (fun h => h)
            have HX7b := hide (HX6.out.kept kq (fun h => h))
            have hcv := hL7b.cell i
            rw [HLc.out] at hcv
            have hfv := hL7b.frozen i
            have hv6 := hL7b.lt
            obtain ⟨⟨r0, r1, r2⟩, _, hX6⟩ := HX7b.out.three
            have kx := keepsOne w7b v i (.int .i64 (c.live + 1))
            have hset := hL7b.set i (.int .i64 (c.live + 1))
            rw [liv_set s s6 i (c.live + 1) HLv6.out] at hset
            have HA7 := hide ((HA6.out.quiet kq).kept kx (fun b hb => by subst hb; exact .inr ⟨_, _, hL7b, by decide, by decide, by decide, by decide⟩))
            have HL7 := hide hset
            have O7 := hide ((O6.out.kept kq (fun _ _ h => h)).kept kx (fun b hb e => by obtain ⟨cs, h4⟩ := (O6.out.kept kq (fun _ _ h => h)).blk hb; subst e; exact absurd (blk_type h4 hL7b) (by decide)))
            have K7 := hide ((K6.out.trans kq).step kx (fun b hb e => by omega))
            have hB7 := Nat.le_trans (Nat.le_trans hB6 kq.size) kx.size
            have HX7 := hide (HX7b.out.kept kx (fun e => by have := blk_type hL7b (e ▸ HX7b.out); exact absurd this (by decide)))
            clear kx hset HA6 HL6 O6 K6 HX6 hB6 hL7b HX7b kq
            go_upto_region 22 with fail
            trace "OK22"
            clear hcv hfv hv6 r0 r1 r2 hX6
            generalize w7b.setCell _ _ = w8 at *
            obtain ⟨⟨r0, r1, r2⟩, _, hX6⟩ := HX7.out.three
            have hv8 := HL7.out.lt
            go_upto_region 23 with (at_builtin; refine wpList_appT _ elemH rfl (.tmp 133) (.tmp 135) rfl w2.heap.size _ rfl (O7.out.kept ((Keeps.refl (fun _ => False) w8).alloc _) (fun _ _ h => h)) _ (m := 1) [.int .i64 i, .int .i64 q, .int .i64 age] rfl (by exact Blk.rd (xs := [.int .i64 i, .int .i64 q, .int .i64 age]) (Blk.new_at _ _ _ _ (by simp)) rfl) (by omega) (by simp [Value.oneCell']) (by simp only [maxLen]; omega) (by omega) (by simp; omega) ?_; intro A8 c8 w10 o8 k8 hA8; have hkA := (Keeps.refl (fun _ => False) w8).alloc (.cells #[.int .i64 i, .int .i64 q, .int .i64 age] 40); have OA := hide (O7.out.kept hkA (fun _ _ h => h)); have O6 := hide o8; have HA6 := hide (IsAr.kept (HA7.out.quiet hkA) k8 (fun b hb => by obtain ⟨cs, h4⟩ := OA.out.blk hb; exact .inr ⟨_, _, h4, by decide, by decide, by decide, by decide⟩)); have HL6 := hide ((HL7.out.kept hkA (fun h => h)).kept k8 (fun h => by obtain ⟨cs, h4⟩ := OA.out.blk h; exact absurd (blk_type h4 (HL7.out.kept hkA (fun h => h))) (by decide))); have K6 := hide ((K7.out.trans hkA).step k8 (fun b hb h => by have := (OA.out.inB h).1; omega)); have hB6 := Nat.le_trans hB7 (Nat.le_trans hkA.size k8.size); have O6 : Hid (OwnT w10 w2.heap.size 40 3 A8 (k3 + 1) c8 (hdCs (H ++ [(i, q, age)]))) := (by show OwnT _ _ _ _ _ _ _ _; rw [hdCs_app]; exact o8); clear o8 k8 hA8 hkA OA)
            trace "OK23"
            clear HA7 HL7 O7 K7 hB7 HX7 r0 r1 r2 hX6 hv8
            have hk61 : k3 + 1 ≤ j + 1 := by omega
            go_wp2_with fail
            trace "USAGE"
            have hU := usage_inv B0 a s6 L6 _ w10 HA6.out HV6.out
            have hcn := cls_len HS6.out HLn.out
            rw [hcn] at hU
            obtain ⟨fa, hfa⟩ : ∃ fa, fa = s6.faults := ⟨_, rfl⟩
            rw [← hfa] at hU
            clear hfa hcn
            refine hU.mono ?_
            rintro e w7 ⟨DU, mU, rfl, oU, kU⟩
            have kb := Keeps.trans kU ((Keeps.refl (fun _ => False) w7).alloc (.cells #[.slice DU n mU, .int .i64 (bytesN s6.cls n), .int .i64 fa] 46))
            have HX8 := hide (Blk.new w7 46 #[.slice DU n mU, .int .i64 (bytesN s6.cls n), .int .i64 fa])
            have OU8 := hide ((oU.kept ((Keeps.refl (fun _ => False) w7).alloc (.cells #[.slice DU n mU, .int .i64 (bytesN s6.cls n), .int .i64 fa] 46)) (fun _ _ h => h)).rd (by omega))
            have HL8 := hide (HL6.out.kept kb (fun h => h))
            have K8 := hide (K6.out.trans kb)
            have HA8 := hide (HA6.out.quiet kb)
            have O8 := hide (O6.out.kept kb (fun _ _ h => h))
            have hB8 := Nat.le_trans hB6 kb.size
            clear hU kU oU kb HA6 HL6 O6 K6
            go_upto_region 25 with fail
            trace "R25"
            generalize w7.alloc _ = w8 at *
            generalize w7.heap.size = X at *
            go_wp2_with fail
            trace "INNER"
            go_loopw [16, 17, 18, 141] (fun bv _ _ iv w' => ∃ (p nq : Nat), p ≤ n ∧ iv = .int .i64 p ∧ bv = .int .i64 (bytesN s6.cls p) ∧ w' = w8.drewN nq) (fun _ _ _ iv _ => n - (intOf iv).toNat)
            case atStart => exact ⟨0, 0, by omega, rfl, rfl, rfl⟩
            case round =>
              obtain ⟨p, nq, hp, rfl, rfl, rfl⟩ := hrel
              by_cases hpn : p < n
              · have HPN : Hid (p + 1 ≤ n) := hpn
                obtain ⟨c, hc⟩ : ∃ c, s6.cls[p]? = some c := ⟨s6.cls[p]'(by rw [cls_len HS6.out HLn.out]; exact hpn), by simp⟩
                obtain ⟨b0, b1, b2, b3, b4⟩ := HV6.out.bds hc
                have hbb := bytesN_bd s6 HV6.out.small p (by rw [cls_len HS6.out HLn.out]; exact hp)
                have HBN : Hid (bytesN s6.cls (p + 1) = bytesN s6.cls p + c.live * c.size) := by show _ = _; simp [bytesN, List.getD, hc]
                have p1 : 0 ≤ c.live * c.size := Int.mul_nonneg b0 (by omega)
                have p2 : c.live * c.size ≤ 65536 * 4096 := Int.mul_le_mul b1 b3 (by omega) (by omega)
                obtain ⟨pr, hpr⟩ : ∃ pr, pr = c.live * c.size := ⟨_, rfl⟩
                have wm : IntKind.i64.wrap (c.live * c.size) = pr := by rw [hpr]; exact IntWalk.i64_in _ (by omega)
                rw [← hpr] at p1 p2 HBN
                obtain ⟨bn, hbn⟩ : ∃ bn, bn = bytesN s6.cls p := ⟨_, rfl⟩
                rw [← hbn] at HBN hbb
                rw [← hbn]
                have wa : IntKind.i64.wrap (bn + pr) = bn + pr := IntWalk.i64_in _ (by omega)
                have hv := liv_cell HL8.out hc
                obtain ⟨g0, g1⟩ := prs_at (cls_at HS6.out hc)
                have hq := HO2.out.kept K8.out (fun _ _ h => h)
                have d0 := hq.cell (p * 2) (by omega)
                have d1 := hq.cell (p * 2 + 1) (by omega)
                rw [g0] at d0
                rw [g1] at d1
                dsimp only at d0 d1
                have hv8 := HL8.out.lt
                have hpI : (p : Int) < (n : Int) := by omega
                have hp0 : (0 : Int) ≤ (p : Int) := by omega
                have gt1 : decide (c.count < c.live) = false := by simp; omega
                clear hc hpr hbn g0 g1 hq
                go_wp2_with fail
                trace "IR"
                go_roundw
                case rel =>
                  refine ⟨p + 1, _, HPN.out, by go_num, ?_, rfl⟩
                  rw [HBN.out]
                case measure => have := HPN.out; simp [intOf]; omega
              · obtain rfl : p = n := by omega
                have hpI : ¬ ((p : Int) < (p : Int)) := by omega
                obtain ⟨⟨u0, u1, u2⟩, _, hX8⟩ := HX8.out.three
                have RL := hide (show Rd w8 w8.heap.size (some ⟨v, 0, none⟩) 1 p ((livesA s6).map (.int .i64)) from Blk.rd HL8.out (by have := cls_len HS6.out HLn.out; simp [livesA]; omega))
                go_wp2_with fail
                trace "SAME"
                refine (sameInts_any (livesA s6) _ _ p _ _ _ _ _ (OU8.out.drewN _) (RL.out.drewN _) (by omega)).mono ?_
                rintro e w9 ⟨rfl, nr, rfl⟩
                go_wp2_with fail
                trace "RND"
                go_roundw
                case rel => exact ⟨j + 1, s6, L6, A8, (k3 + 1), c8, (H ++ [(i, q, age)]), by omega, rfl, by go_num, HHn6, by omega, hide (O8.out.kept ((Keeps.refl (fun _ => False) w8).drewN _) (fun _ _ h => h)), hide (HA8.out.quiet ((Keeps.refl (fun _ => False) w8).drewN _)), hide (by have := HV6.out; push_cast; exact this), HH6, HS6, hide (HL8.out.drewN _), hide (K8.out.drewN _), hB8⟩
                case measure => simp [intOf]; omega
    · by_cases hjn : j < n2
      · have hj40 : ¬ ((j : Int) < 60) := by omega
        have e3 : decide ((j : Int) < (n2 : Int)) = true := by simpa using hjn
        have e4 : decide ((j : Int) < 60) = false := by simp; omega
        have hnl : ¬ (j < n2 ∧ j < 60) := hlt
        go_wp2_with fail
        trace "AWAKE"
        refine (awake08 _).mono ?_
        rintro e w14 ⟨rfl, k14⟩
        have K14 := hide ((K2.out.trans HK.out).trans k14)
        clear k14
        go_wp2_with fail
        go_ret
        exact ⟨rfl, K14.out⟩
      · have e3 : decide ((j : Int) < (n2 : Int)) = false := by simpa using hjn
        have e4 : ¬ ((j : Int) < (n2 : Int)) := by omega
        have hnl : ¬ (j < n2 ∧ j < 60) := hlt
        go_wp2_with fail
        trace "AWAKE"
        refine (awake08 _).mono ?_
        rintro e w14 ⟨rfl, k14⟩
        have K14 := hide ((K2.out.trans HK.out).trans k14)
        clear k14
        go_wp2_with fail
        go_ret
        exact ⟨rfl, K14.out⟩
theorem walk (w : World) (A1 : Option Addr) (n1 c1 : Nat) (z1 : List Int) (r1 : Rd w w.heap.size A1 1 n1 (z1.map (.int .i64))) (b1 : ∀ z ∈ z1, -9223372036854775808 ≤ z ∧ z < 9223372036854775808) (s1 : n1 * 8 ≤ 140737488351232) (l1 : n1 ≤ c1)
    (A2 : Option Addr) (n2 c2 : Nat) (z2 : List Int) (r2 : Rd w w.heap.size A2 1 n2 (z2.map (.int .i64))) (b2 : ∀ z ∈ z2, -9223372036854775808 ≤ z ∧ z < 9223372036854775808) (s2 : n2 * 8 ≤ 140737488351232) (l2 : n2 ≤ c2) :
    Calls Try.prog 4 #[.slice A1 n1 c1, .slice A2 n2 c2] w fun e w' => e = .returned (.bool true) ∧ Below w.heap.size w w' :=
  (main w A1 n1 c1 z1 r1 b1 (by omega) A2 n2 c2 z2 r2 b2 (by omega)).mono fun e w' ⟨he, hk⟩ => ⟨he, hk.done⟩
end arenaCounts
end Go.Proofs.Ytidobhflijdccaa
