/-
  ArenaDistinct: no two live handles denote the same slot, and each keeps its bytes. No conditions beyond those of the statement.
-/
import Derived.Test.YtidobhflijdccaaAk
import Derived.Test.YtidobhflijdccaaMem3
import Derived.Deep.RegionLaw
set_option linter.unusedVariables false
set_option linter.unusedSimpArgs false
namespace Go.Proofs.Ytidobhflijdccaa
open Go.RowKit Cfp
theorem i64_and63 (n : Int) : bits .and .i64 n 63 = n % 64 := by
  have h15 : (BitVec.ofInt 64 63).toNat = 2 ^ 6 - 1 := by decide
  have key : (BitVec.ofInt 64 n &&& BitVec.ofInt 64 63).toNat = (n % ((2 ^ 64 : Nat) : Int)).toNat % 2 ^ 6 := by
    rw [BitVec.toNat_and, BitVec.toNat_ofInt, h15, Nat.and_two_pow_sub_one_eq_mod]
  show IntKind.i64.wrap ((BitVec.ofInt 64 n &&& BitVec.ofInt 64 63).toNat : Nat) = n % 64
  rw [key, IntKind.wrap_i64]
  omega
abbrev Hd := Nat × Nat × Int
def hdC (h : Hd) : List Value := [.int .i64 h.1, .int .i64 h.2.1, .int .i64 h.2.2]
def hdCs (l : List Hd) : List Value := l.flatMap hdC
theorem hdCs_len (l : List Hd) : (hdCs l).length = l.length * 3 := flat_len _ 3 (fun _ => rfl) l
theorem hdCs_at {l : List Hd} {i : Nat} {x : Hd} (h : l[i]? = some x) : (hdCs l)[i * 3]? = some (.int .i64 x.1) ∧ (hdCs l)[i * 3 + 1]? = some (.int .i64 x.2.1) ∧ (hdCs l)[i * 3 + 2]? = some (.int .i64 x.2.2) :=
  ⟨flat_get _ 3 (fun _ => rfl) l i 0 x h (by omega), flat_get _ 3 (fun _ => rfl) l i 1 x h (by omega), flat_get _ 3 (fun _ => rfl) l i 2 x h (by omega)⟩
theorem hdCs_app (l m : List Hd) : hdCs (l ++ m) = hdCs l ++ hdCs m := List.flatMap_append
theorem hdCs_take (l : List Hd) (k : Nat) : (hdCs l).take (k * 3) = hdCs (l.take k) := by
  induction l generalizing k with
  | nil => simp [hdCs]
  | cons x l ih =>
    rcases k with _ | k
    · simp [hdCs]
    · have := ih k
      simp only [hdCs, List.flatMap_cons, List.take_succ_cons] at this ⊢
      rw [show (k + 1) * 3 = (hdC x).length + k * 3 from by show _ = 3 + k * 3; omega, List.take_length_add_append, this]
theorem hdCs_drop (l : List Hd) (k : Nat) : (hdCs l).drop (k * 3) = hdCs (l.drop k) := by
  induction l generalizing k with
  | nil => simp [hdCs]
  | cons x l ih =>
    rcases k with _ | k
    · simp [hdCs]
    · have := ih k
      simp only [hdCs, List.flatMap_cons, List.drop_succ_cons] at this ⊢
      rw [show (k + 1) * 3 = (hdC x).length + k * 3 from by show _ = 3 + k * 3; omega, List.drop_length_add_append, this]
theorem hdCs_one (l : List Hd) : ∀ u ∈ hdCs l, u.oneCell' = true := by
  intro u hu
  unfold hdCs at hu
  rw [List.mem_flatMap] at hu
  obtain ⟨c, _, hu⟩ := hu
  simp [hdC] at hu
  rcases hu with rfl | rfl | rfl <;> rfl
theorem elemH : ElemOf Try.prog 49 40 3 24 := ElemOf.mk' (z := .agg #[.int .i64 0, .int .i64 0, .int .i64 0]) Try.underlying49 (by kernel_rfl) rfl (by omega)
/-- the byte that is written -/
def dB (g : Int) : UInt8 := UInt8.ofNat (g % 256).toNat
theorem by8_dB (g : Int) : by8 (dB g) = .int .u8 (IntKind.u8.wrap g) := by
  have h0 := Int.emod_nonneg g (show (256 : Int) ≠ 0 by omega)
  have h1 := Int.emod_lt_of_pos g (show (0 : Int) < 256 by omega)
  unfold by8 dB
  have e1 : ((UInt8.ofNat (g % 256).toNat).toNat : Int) = g % 256 := by
    rw [UInt8.toNat_ofNat']
    omega
  rw [e1]
  congr 1
/-- these handles, and no others, are live -/
structure Held (s : Ar) (H : List Hd) : Prop where
  lv : ∀ i k g d, LV s i k g d ↔ ((i, k, g) ∈ H ∧ d = [dB g])
  nd : (H.map (fun h => (h.1, h.2.1))).Nodup
theorem Held.get {s : Ar} {H : List Hd} (h : Held s H) {q : Nat} {x : Hd} (hx : H[q]? = some x) : LV s x.1 x.2.1 x.2.2 [dB x.2.2] := (h.lv _ _ _ _).2 ⟨List.mem_of_getElem? hx, rfl⟩
theorem Held.gone {s s' : Ar} {H : List Hd} (h : Held s H) {q : Nat} {x : Hd} (hx : H[q]? = some x) (g : Gone s s' x.1 x.2.1) : Held s' (H.eraseIdx q) := by
  refine ⟨fun i k a d => ?_, ?_⟩
  · rw [g.lvs, h.lv, List.mem_eraseIdx_iff_getElem?]
    constructor
    · rintro ⟨⟨hm, hd⟩, hne⟩
      obtain ⟨p, hp⟩ := List.mem_iff_getElem?.1 hm
      refine ⟨⟨p, fun e => ?_, hp⟩, hd⟩
      subst e
      rw [hx] at hp
      injection hp with hp
      subst hp
      exact hne ⟨rfl, rfl⟩
    · rintro ⟨⟨p, hp, hpe⟩, hd⟩
      refine ⟨⟨List.mem_of_getElem? hpe, hd⟩, fun e => ?_⟩
      have h1 : (H.map (fun h => (h.1, h.2.1)))[p]? = some (x.1, x.2.1) := by rw [List.getElem?_map, hpe]; simp [e]
      have h2 : (H.map (fun h => (h.1, h.2.1)))[q]? = some (x.1, x.2.1) := by rw [List.getElem?_map, hx]; rfl
      obtain ⟨hp1, hp2⟩ := List.getElem?_eq_some_iff.1 h1
      obtain ⟨hq1, hq2⟩ := List.getElem?_eq_some_iff.1 h2
      have hpw := List.pairwise_iff_getElem.1 h.nd
      rcases Nat.lt_trichotomy p q with hlt | rfl | hlt
      · exact hpw p q hp1 hq1 hlt (hp2.trans hq2.symm)
      · exact hp rfl
      · exact hpw q p hq1 hp1 hlt (hq2.trans hp2.symm)
  · exact h.nd.sublist (List.Sublist.map _ (List.eraseIdx_sublist _ _))
theorem Held.got {s s1 s2 : Ar} {H : List Hd} (h : Held s H) {i k : Nat} {age size : Int} (g : Got s s1 i k age size) (wr : Wrote s1 s2 i k age [dB age]) : Held s2 (H ++ [(i, k, age)]) := by
  have hno : ∀ a d, ¬ LV s i k a d := g.old
  refine ⟨fun j q a d => ?_, ?_⟩
  · rw [wr.lvs, g.lvs, h.lv, List.mem_append, List.mem_singleton]
    constructor
    · rintro (⟨rfl, rfl, rfl, rfl⟩ | ⟨⟨rfl, rfl, rfl, rfl⟩ | ⟨h1, h2⟩, hne⟩)
      · exact ⟨.inr rfl, rfl⟩
      · exact absurd ⟨rfl, rfl⟩ hne
      · exact ⟨.inl h1, h2⟩
    · rintro ⟨h1 | h1, rfl⟩
      · refine .inr ⟨.inr ⟨h1, rfl⟩, fun e => ?_⟩
        obtain ⟨rfl, rfl⟩ := e
        exact hno a _ ((h.lv _ _ _ _).2 ⟨h1, rfl⟩)
      · injection h1 with e1 e2
        injection e2 with e2 e3
        subst e1 e2 e3
        exact .inl ⟨rfl, rfl, rfl, rfl⟩
  · rw [List.map_append, List.nodup_append]
    refine ⟨h.nd, by simp, fun a ha b hb => ?_⟩
    obtain ⟨y, hy, rfl⟩ := List.mem_map.1 ha
    simp at hb
    subst hb
    intro e
    injection e with e1 e2
    exact hno y.2.2 _ (by rw [← e1, ← e2]; exact (h.lv _ _ _ _).2 ⟨hy, rfl⟩)
theorem Held.new {s : Ar} (h : ∀ (i : Nat) (c : Cls), s.cls[i]? = some c → c.slots = []) : Held s [] :=
  ⟨fun i k g d => ⟨fun ⟨c, x, h1, h2, _⟩ => by rw [h i c h1] at h2; simp at h2, fun h => by simp at h⟩, by simp⟩

namespace arenaDistinct
set_option maxRecDepth 100000 in
set_option maxHeartbeats 3000000 in
theorem main (w : World) (A1 : Option Addr) (n1 c1 : Nat) (zs : List Int) (hd : Rd w w.heap.size A1 1 n1 (zs.map (.int .i64))) (hz : ∀ z ∈ zs, -9223372036854775808 ≤ z ∧ z < 9223372036854775808) (hn1 : n1 ≤ 17592186043904)
    (A2 : Option Addr) (n2 c2 : Nat) (z2 : List Int) (hd2 : Rd w w.heap.size A2 1 n2 (z2.map (.int .i64))) (hz2 : ∀ z ∈ z2, -9223372036854775808 ≤ z ∧ z < 9223372036854775808) (hn2 : n2 ≤ 17592186043904) :
    Calls Try.prog 6 #[.slice A1 n1 c1, .slice A2 n2 c2] w fun e w' => e = .returned (.bool true) ∧ Keeps (fun _ => False) w w' := by
  have HD := hide hd
  have HD2 := hide hd2
  have HZ2 := hide hz2
  clear hd hd2 hz2
  go_enter Try.func6, Try.ntmps6
  go_wp2_with fail
  refine (new_deck A1 n1 c1 zs _ w (Nat.le_refl _) HD.out hz (by omega)).mono ?_
  rintro e w1 ⟨rfl, d1, k1⟩
  have K1 := hide k1
  clear k1
  go_wp2_with fail
  refine (two_any _ w.heap.size w1 d1).mono ?_
  rintro e w2 ⟨a, b, D, cD, q, CA, cap, l, n, B0, rfl, hB0, hB2, hA, hln, hn4, hE, hlb, _, _, _, _, _, _, k2⟩
  have hg : w.heap.size < w1.heap.size := d1.lt
  have K2 := hide (K1.out.step k2 (fun b hb e => by omega))
  have HA := hide hA
  have HV := hide (inv_new l hE CA cap n hln)
  have HH : Hid (Held (parAr l n CA cap) []) := hide (Held.new fun i c hc => by
    have hcl : (parAr l n CA cap).cls = l.map mkC := by unfold parAr; rw [← hln, List.take_length]
    rw [hcl] at hc
    obtain ⟨x, _, rfl⟩ := List.mem_map.1 (List.mem_of_getElem? hc)
    rfl)
  have hwB : w.heap.size ≤ B0 := by omega
  clear K1 d1 hA hln hlb hE k2
  go_upto_region 6 with fail
  trace "LOOP"
  have hB2' : w.heap.size ≤ w2.heap.size := K2.out.size
  go_loopw [8, 9, 10, 11, 12, 13, 15] (fun lv iv _ _ _ _ _ wr => ∃ (j : Nat) (s : Ar) (L : Nat → List Nat) (D : Option Addr) (n m : Nat) (H : List Hd), j ≤ 40 ∧ lv = .slice D n m ∧ iv = .int .i64 j ∧ Hid (H.length = n) ∧ n ≤ j ∧ Hid (Own wr w2.heap.size 40 3 D n m (hdCs H)) ∧ Hid (IsAr wr B0 a s) ∧ Hid (Inv s L j) ∧ Hid (Held s H ∧ s.faults = 0) ∧ Hid (Keeps (fun _ => False) w wr) ∧ B0 ≤ wr.heap.size ∧ w2.heap.size ≤ wr.heap.size) (fun _ iv _ _ _ _ _ _ => 40 - (intOf iv).toNat)
  case atStart => exact ⟨0, _, _, none, 0, 0, [], by omega, rfl, rfl, rfl, by omega, hide (Own.nil _ _ _ _), HA, HV, hide ⟨HH.out, rfl⟩, K2, hB2, Nat.le_refl _⟩
  case round =>
    obtain ⟨j, s, L, D, n3, m3, H, hj, rfl, rfl, HLn, hnj, HO, HA3, HV3, HH3, HK, hBr, hwr⟩ := hrel
    clear HA HV HH
    by_cases hlt : j < n2 ∧ j < 40
    · obtain ⟨hlt1, hlt2⟩ := hlt
      have e1 : decide ((j : Int) < (n2 : Int)) = true := by simpa using hlt1
      have e2 : decide ((j : Int) < 40) = true := by simp; omega
      obtain ⟨b2, off2, rfl, hb2, hcell⟩ := (HD2.out.kept HK.out (fun _ _ h => h)).2 (by omega)
      have hzl : z2.length = n2 := by have := HD2.out.1; simpa using this
      obtain ⟨z, hze⟩ : ∃ z, z2[j]? = some z := ⟨z2[j]'(by omega), by simp⟩
      have hc1 := hcell j (.int .i64 z) (by rw [List.getElem?_map, hze]; rfl)
      have hzb := HZ2.out z (List.mem_of_getElem? hze)
      have hjI : (j : Int) < (n2 : Int) := by omega
      have hj0 : (0 : Int) ≤ (j : Int) := by omega
      have hle := HO.out.le
      clear hcell hze hzl
      by_cases hA : ((bits .and .i64 z 3 == 0) = true) ∧ 0 < n3
      · obtain ⟨ha1, ha2⟩ := hA
        have e3 : decide ((0 : Int) < (n3 : Int)) = true := by simpa using ha2
        have n30 : ((n3 : Int) == 0) = false := by simp; omega
        go_upto_region 10 with fail
        trace "R10"
        have h63 := i64_and63
        have htm : ∀ v : Int, Int.tmod (v % 64) (n3 : Int) = (v % 64) % (n3 : Int) := fun v => Int.tmod_eq_emod_of_nonneg (Int.emod_nonneg v (by omega))
        go_upto_region 11 with fail
        trace "R11"
        obtain ⟨kk, hkk, hkn⟩ : ∃ kk : Nat, z / 4 % 64 % (n3 : Int) = (kk : Int) ∧ kk < n3 := ⟨(z / 4 % 64 % (n3 : Int)).toNat, by have := Int.emod_nonneg (z / 4 % 64) (show (n3 : Int) ≠ 0 by omega); omega, by have := Int.emod_lt_of_pos (z / 4 % 64) (show (0 : Int) < (n3 : Int) by omega); omega⟩
        rw [hkk]
        obtain ⟨x, hx⟩ : ∃ x, H[kk]? = some x := ⟨H[kk]'(by rw [HLn.out]; exact hkn), by simp⟩
        obtain ⟨g0, g1, g2⟩ := hdCs_at hx
        obtain ⟨C3, rfl, _⟩ := HO.out.some_ (by omega)
        have q0 := HO.out.cell (kk * 3) (by omega)
        have q1 := HO.out.cell (kk * 3 + 1) (by omega)
        have q2 := HO.out.cell (kk * 3 + 2) (by omega)
        rw [g0] at q0
        rw [g1] at q1
        rw [g2] at q2
        have hkI : (kk : Int) < (n3 : Int) := by omega
        have hk0 : (0 : Int) ≤ (kk : Int) := by omega
        have HX := hide hx
        clear hkk hx g0 g1 g2 h63 htm
        go_wp2_with fail
        trace "FREE"
        refine (free_any B0 a s L j x.1 x.2.1 x.2.2 [dB x.2.2] wr HA3.out HV3.out (HH3.out.1.get HX.out)).mono ?_
        rintro e w6 ⟨rfl, ⟨s6, L6, h6, v6, g6⟩, k6⟩
        have HA6 := hide h6
        have HV6 := hide (v6.more (show (j : Int) ≤ ((j + 1 : Nat) : Int) by omega))
        have HH6 : Hid (Held s6 (H.eraseIdx kk) ∧ s6.faults = 0) := hide ⟨HH3.out.1.gone HX.out g6, g6.faults.trans HH3.out.2⟩
        have O6 := hide (HO.out.kept k6 (fun b hb hS => by obtain ⟨cs, h4⟩ := HO.out.blk hb; exact ArS.not h4 (by decide) (by decide) (by decide) hS))
        have K6 := hide (ArS.to0 HK.out k6 hwB)
        have hB6 : B0 ≤ w6.heap.size := Nat.le_trans hBr k6.size
        have hw6 : w2.heap.size ≤ w6.heap.size := Nat.le_trans hwr k6.size
        have HLe : Hid ((H.eraseIdx kk).length = kk + (n3 - (kk + 1))) := by show _ = _; rw [List.length_eraseIdx, HLn.out, if_pos hkn]; omega
        have HEr : Hid (hdCs (H.eraseIdx kk) = hdCs (H.take kk) ++ hdCs (H.drop (kk + 1))) := by show _ = _; rw [List.eraseIdx_eq_take_drop_succ, hdCs_app]
        obtain ⟨Da, hsa, hra, hia⟩ := sub_hi elemH (some ⟨C3, 0, none⟩) n3 m3 .i64 (kk : Int) (by omega) (by omega) hle
        obtain ⟨Db, hsb, hrb, hib⟩ := sub_lo elemH (some ⟨C3, 0, none⟩) n3 m3 .i64 ((kk : Int) + 1) (by omega) (by omega) hle
        rw [show ((kk : Int) + 1).toNat = kk + 1 from by omega] at hsb hrb
        rw [show (kk : Int).toNat = kk from by omega] at hsa hra
        have RA := hide (hra _ _ _ (O6.out.rd (by omega)))
        have RB := hide (hrb _ _ _ (O6.out.rd (by omega)))
        rw [hdCs_take] at RA
        rw [hdCs_drop] at RB
        have wk1 : IntKind.i64.wrap ((kk : Int) + 1) = (kk : Int) + 1 := IntWalk.i64_in _ (by omega)
        clear h6 v6 g6 k6 HA3 HV3 HH3 HO HK q0 q1 q2 hra hrb hia hib
        go_upto_region 13 with fail
        trace "R13"
        go_region_law (first
          | (refine step_app _ elemH (by rfl) (.tmp 64) (.tmp 67) (by rfl) w6.heap.size _ (by rfl) (Own.new0 _ _ 40 3 _ (by simp) (by simp)) _ (m := kk) _ (by rfl) (RA.out.kept (((Keeps.refl (fun _ => False) w6).drew).alloc _) (fun _ _ h => h)) (hdCs_one _) (by simp only [maxLen]; omega) (by omega) (by simp) ?_; intro A7 c7 w7 o7 k7 hA7; rw [Nat.zero_add, List.nil_append] at o7; have O7 := hide o7; have K7 := hide ((((Keeps.refl (fun _ => False) w6).drew).alloc (.cells #[] 40)).step k7 (fun k hk h => by have := (inB_some _ _ _).1 h; omega)); clear o7 k7 hA7)
          | (refine step_app _ elemH (by rfl) (.tmp 68) (.tmp 72) (by rfl) w6.heap.size _ (by rfl) O7.out _ (m := n3 - (kk + 1)) _ (by rfl) (RB.out.kept K7.out (fun _ _ h => h)) (hdCs_one _) (by simp only [maxLen]; omega) (by omega) (K7.out.size) ?_; intro A8 c8 w8 o8 k8 hA8; have O8 := hide o8; have K8 := hide (K7.out.step k8 (fun k hk h => by have := O7.out.inB h; omega)); clear o8 k8 hA8))
        trace "R13b"
        go_wp2_with fail
        trace "RNDA"
        go_roundw
        case rel =>
          refine ⟨j + 1, s6, L6, A8, kk + (n3 - (kk + 1)), c8, H.eraseIdx kk, by omega, rfl, by go_num, HLe, by omega, ?_, hide (HA6.out.quiet K8.out), HV6, HH6, hide (K6.out.trans K8.out), Nat.le_trans hB6 K8.out.size, Nat.le_trans hw6 K8.out.size⟩
          rw [HEr.out]
          exact O8.out.base_le hw6
        case measure => simp [intOf]; omega
      · have e3 : ((bits .and .i64 z 3 == 0) = false) ∨ ((bits .and .i64 z 3 == 0) = true) ∧ ¬ (0 < n3) := by
          rcases hb : (bits .and .i64 z 3 == 0) with _ | _
          · exact .inl rfl
          · exact .inr ⟨rfl, fun h => hA ⟨hb, h⟩⟩
        rcases e3 with e3 | ⟨e3, e4⟩ <;> clear hA
        ·
          go_upto_region 14 with fail
          trace "R14"
          (try clear e4)
          (try clear e3)
          go_wp2_with fail
          trace "ALLOC"
          refine (alloc_any B0 a s L j _ wr HA3.out HV3.out (by omega) hBr).mono ?_
          rintro e w6 hal
          rcases hal with ⟨rfl, h6, k6, _⟩ | ⟨rfl, h6, k6, _⟩ | ⟨i, k, age, s6, L6, rfl, h6, v6, g6, hage, k6, hfit⟩
          ·
            have ka := (Keeps.refl (fun _ => False) w6).alloc (.cells #[.int .i64 0, .int .i64 0, .int .i64 0] 40)
            have H6 := hide (h6.quiet ka)
            have V6 := hide (HV3.out.more (show (j : Int) ≤ ((j + 1 : Nat) : Int) by omega))
            have O6 := hide ((HO.out.kept k6 (fun _ _ h => h)).kept ka (fun _ _ h => h))
            have K6 := hide ((HK.out.trans k6).trans ka)
            have hs6 := Nat.le_trans k6.size ka.size
            have hBx := Nat.le_trans hBr hs6
            have hwx := Nat.le_trans hwr hs6
            clear h6 k6 ka HO HK HA3 HV3
            go_upto_region 15 with fail
            generalize w6.alloc _ = w7 at *
            go_wp2_with fail
            go_roundw
            case rel => exact ⟨j + 1, s, L, D, n3, m3, H, by omega, rfl, by go_num, HLn, by omega, O6, H6, V6, HH3, K6, hBx, hwx⟩
            case measure => simp [intOf]; omega
          ·
            have ka := (Keeps.refl (fun _ => False) w6).alloc (.cells #[.int .i64 0, .int .i64 0, .int .i64 0] 40)
            have H6 := hide (h6.quiet ka)
            have V6 := hide (HV3.out.more (show (j : Int) ≤ ((j + 1 : Nat) : Int) by omega))
            have O6 := hide ((HO.out.kept k6 (fun _ _ h => h)).kept ka (fun _ _ h => h))
            have K6 := hide ((HK.out.trans k6).trans ka)
            have hs6 := Nat.le_trans k6.size ka.size
            have hBx := Nat.le_trans hBr hs6
            have hwx := Nat.le_trans hwr hs6
            clear h6 k6 ka HO HK HA3 HV3
            go_upto_region 15 with fail
            generalize w6.alloc _ = w7 at *
            go_wp2_with fail
            go_roundw
            case rel => exact ⟨j + 1, s, L, D, n3, m3, H, by omega, rfl, by go_num, HLn, by omega, O6, H6, V6, HH3, K6, hBx, hwx⟩
            case measure => simp [intOf]; omega
          ·
            have ka := (Keeps.refl (fun _ => False) w6).alloc (.cells #[.int .i64 i, .int .i64 k, .int .i64 age] 40)
            have X6 := hide (Blk.new w6 40 #[.int .i64 i, .int .i64 k, .int .i64 age])
            have H6 := hide (h6.quiet ka)
            have V6 := hide v6
            have G6 := hide g6
            have O6 := hide ((HO.out.kept k6 (fun b hb hS => by obtain ⟨cs, h4⟩ := HO.out.blk hb; exact ArS.not h4 (by decide) (by decide) (by decide) hS)).kept ka (fun _ _ h => h))
            have K6 := hide ((ArS.to0 HK.out k6 hwB).trans ka)
            have hB6 : B0 ≤ (w6.alloc (.cells #[.int .i64 i, .int .i64 k, .int .i64 age] 40)).heap.size := Nat.le_trans hBr (Nat.le_trans k6.size ka.size)
            have hw6 : w2.heap.size ≤ (w6.alloc (.cells #[.int .i64 i, .int .i64 k, .int .i64 age] 40)).heap.size := Nat.le_trans hwr (Nat.le_trans k6.size ka.size)
            have hX6 : w2.heap.size ≤ w6.heap.size := Nat.le_trans hwr k6.size
            clear h6 v6 g6 k6 ka HO HK HA3 HV3
            go_upto_region 16 with fail
            trace "R16"
            generalize w6.alloc _ = w7 at *
            generalize w6.heap.size = X at *
            go_wp2_with fail
            trace "INNER"
            go_loopw [15, 87] (fun _ iv w' => ∃ p : Nat, p ≤ n3 ∧ iv = .int .i64 p ∧ Hid (Keeps (fun _ => False) w7 w')) (fun _ iv _ => n3 - (intOf iv).toNat)
            case atStart => exact ⟨0, by omega, rfl, hide (Keeps.refl _ _)⟩
            case round =>
              obtain ⟨p, hp, rfl, KI⟩ := hrel
              by_cases hpn : p < n3
              · have HPN : Hid (p + 1 ≤ n3) := hpn
                obtain ⟨x, hx⟩ : ∃ x, H[p]? = some x := ⟨H[p]'(by rw [HLn.out]; exact hpn), by simp⟩
                obtain ⟨g0, g1, g2⟩ := hdCs_at hx
                obtain ⟨C3, rfl, _⟩ := O6.out.some_ (by omega)
                have OI := O6.out.kept KI.out (fun _ _ h => h)
                have q0 := OI.cell (p * 3) (by omega)
                have q1 := OI.cell (p * 3 + 1) (by omega)
                have q2 := OI.cell (p * 3 + 2) (by omega)
                rw [g0] at q0
                rw [g1] at q1
                rw [g2] at q2
                have XI := X6.out.kept KI.out (fun h => h)
                have r0 := XI.cell 0
                have r1 := XI.cell 1
                have hXI : X < wr.heap.size := XI.lt
                simp only [List.getElem?_toArray, List.getElem?_cons_zero, List.getElem?_cons_succ] at r0 r1
                have hpI : (p : Int) < (n3 : Int) := by omega
                have hp0 : (0 : Int) ≤ (p : Int) := by omega
                have hdiff : ¬ (x.1 = i ∧ x.2.1 = k) := fun e => by
                  have h1 := HH3.out.1.get hx
                  rw [e.1, e.2] at h1
                  exact G6.out.old _ _ h1
                have hKI := hide (KI.out.alloc (.cells #[.int .i64 x.1, .int .i64 x.2.1, .int .i64 x.2.2] 40))
                clear hx g0 g1 g2 OI XI
                by_cases hxi : x.1 = i
                · have f1 : (((x.1 : Nat) : Int) == (i : Int)) = true := by simp [hxi]
                  have f2 : (((x.2.1 : Nat) : Int) == (k : Int)) = false := by
                    have : ¬ x.2.1 = k := fun e => hdiff ⟨hxi, e⟩
                    simp only [beq_eq_false_iff_ne, ne_eq]; omega
                  clear hdiff hxi
                  go_wp2_with fail
                  go_roundw
                  case rel => exact ⟨p + 1, HPN.out, by go_num, hKI⟩
                  case measure => have := HPN.out; simp [intOf]; omega
                · have f1 : (((x.1 : Nat) : Int) == (i : Int)) = false := by simp only [beq_eq_false_iff_ne, ne_eq]; omega
                  clear hdiff hxi
                  go_wp2_with fail
                  go_roundw
                  case rel => exact ⟨p + 1, HPN.out, by go_num, hKI⟩
                  case measure => have := HPN.out; simp [intOf]; omega
              · obtain rfl : p = n3 := by omega
                have X7 := X6.out.kept KI.out (fun h => h)
                obtain ⟨⟨r0, r1, r2⟩, _, hX7⟩ := X7.three
                have HA7 := hide (H6.out.quiet KI.out)
                have O7 := hide (O6.out.kept KI.out (fun _ _ h => h))
                have K7 := hide (K6.out.trans KI.out)
                have hB7 : B0 ≤ wr.heap.size := Nat.le_trans hB6 KI.out.size
                have hw7 : w2.heap.size ≤ wr.heap.size := Nat.le_trans hw6 KI.out.size
                have hwa : IntKind.u8.wrap age = age := by rw [IntKind.wrap_u8]; omega
                have kb := (Keeps.refl (fun _ => False) wr).alloc (.cells #[.int .u8 age] 5)
                have HA8 := hide (HA7.out.quiet kb)
                have X8 := hide (X7.kept kb (fun h => h))
                have O8 := hide (O7.out.kept kb (fun _ _ h => h))
                have K8 := hide (K7.out.trans kb)
                have RB := hide (show Rd (wr.alloc (.cells #[.int .u8 age] 5)) (wr.alloc (.cells #[.int .u8 age] 5)).heap.size (some ⟨wr.heap.size, 0, none⟩) 1 1 ([dB age].map by8) from by
                  have := (Blk.new wr 5 ([dB age].map by8).toArray).rd (n := 1) (sz := 1) rfl
                  simpa [by8_dB, hwa] using this)
                have hB8 : B0 ≤ (wr.alloc (.cells #[.int .u8 age] 5)).heap.size := Nat.le_trans hB7 kb.size
                have hw8 : w2.heap.size ≤ (wr.alloc (.cells #[.int .u8 age] 5)).heap.size := Nat.le_trans hw7 kb.size
                clear X7 kb HA7 O7 K7 K6 O6 H6 X6
                go_wp2_with fail
                trace "WRITE"
                have hlv6 : LV s6 i k age [] := (G6.out.lvs i k age []).2 (.inl ⟨rfl, rfl, rfl, rfl⟩)
                obtain ⟨c6, hc6, hc6b⟩ : ∃ c6, s6.cls[i]? = some c6 ∧ 1 ≤ c6.size := by obtain ⟨c6, x6, h1, _⟩ := hlv6; exact ⟨c6, h1, (V6.out.cb i c6 h1).2.2.1⟩
                refine (write_any B0 a s6 L6 (j + 1) i k age [] c6 _ 1 1 _ [dB age] _ HA8.out V6.out hlv6 hc6 (by omega) RB.out (Nat.le_refl _) hB8).mono ?_
                rintro e w9 ⟨rfl, ⟨s9, L9, h9, v9, g9⟩, k9⟩
                have HH9 : Hid (Held s9 (H ++ [(i, k, age)]) ∧ s9.faults = 0) := hide ⟨HH3.out.1.got G6.out g9, (g9.faults.trans G6.out.faults).trans HH3.out.2⟩
                have HA9 := hide h9
                have HV9 := hide v9
                have O9 := hide (O8.out.kept k9 (fun b hb hS => by obtain ⟨cs, h4⟩ := O8.out.blk hb; exact ArS.not h4 (by decide) (by decide) (by decide) hS))
                have X9 := hide (X8.out.kept k9 (ArS.not X8.out (by decide) (by decide) (by decide)))
                have K9 := hide (ArS.to0 K8.out k9 hwB)
                have hB9 := Nat.le_trans hB8 k9.size
                have hw9 := Nat.le_trans hw8 k9.size
                clear hlv6 hc6 hc6b h9 v9 g9 k9 HA8 V6 O8 X8 K8 RB HH3 G6 r0 r1 r2 hX7 hB8 hw8
                obtain ⟨⟨r0, r1, r2⟩, _, hX9⟩ := X9.out.three
                go_wp2_with (at_builtin; refine wpList_app _ elemH rfl (.tmp 112) (.tmp 114) rfl w2.heap.size _ rfl (O9.out.kept ((Keeps.refl (fun _ => False) w9).alloc _) (fun _ _ h => h)) _ (m := 1) [.int .i64 i, .int .i64 k, .int .i64 age] rfl (by exact Blk.rd (xs := [.int .i64 i, .int .i64 k, .int .i64 age]) (Blk.new_at _ _ _ _ (by simp)) rfl) (by simp [Value.oneCell']) (by simp only [maxLen]; omega) (by omega) (by simp; omega) ?_; intro A7 c7 w10 o7 k7 hA7; have hkA := (Keeps.refl (fun _ => False) w9).alloc (.cells #[.int .i64 i, .int .i64 k, .int .i64 age] 40); have O10 := hide o7; have HA10 := hide (IsAr.kept (HA9.out.quiet hkA) k7 (fun b hb => by obtain ⟨cs, h4⟩ := (O9.out.kept hkA (fun _ _ h => h)).blk hb; exact .inr ⟨_, _, h4, by decide, by decide, by decide, by decide⟩)); have K10 := hide ((K9.out.trans hkA).step k7 (fun b hb h => by have := O9.out.inB h; omega)); have hs10 := Nat.le_trans hkA.size k7.size; clear o7 k7 hA7 hkA)
                trace "RNDB"
                go_roundw
                case rel =>
                  refine ⟨j + 1, s9, L9, A7, p + 1, c7, H ++ [(i, k, age)], by omega, rfl, by go_num, hide (by simp [HLn.out]), by omega, ?_, HA10, hide (by have := HV9.out; push_cast; exact this), HH9, K10, Nat.le_trans hB9 hs10, Nat.le_trans hw9 hs10⟩
                  rw [hdCs_app]
                  exact O10.out
                case measure => simp [intOf]; omega
        ·
          go_upto_region 14 with fail
          trace "R14"
          (try clear e4)
          (try clear e3)
          go_wp2_with fail
          trace "ALLOC"
          refine (alloc_any B0 a s L j _ wr HA3.out HV3.out (by omega) hBr).mono ?_
          rintro e w6 hal
          rcases hal with ⟨rfl, h6, k6, _⟩ | ⟨rfl, h6, k6, _⟩ | ⟨i, k, age, s6, L6, rfl, h6, v6, g6, hage, k6, hfit⟩
          ·
            have ka := (Keeps.refl (fun _ => False) w6).alloc (.cells #[.int .i64 0, .int .i64 0, .int .i64 0] 40)
            have H6 := hide (h6.quiet ka)
            have V6 := hide (HV3.out.more (show (j : Int) ≤ ((j + 1 : Nat) : Int) by omega))
            have O6 := hide ((HO.out.kept k6 (fun _ _ h => h)).kept ka (fun _ _ h => h))
            have K6 := hide ((HK.out.trans k6).trans ka)
            have hs6 := Nat.le_trans k6.size ka.size
            have hBx := Nat.le_trans hBr hs6
            have hwx := Nat.le_trans hwr hs6
            clear h6 k6 ka HO HK HA3 HV3
            go_upto_region 15 with fail
            generalize w6.alloc _ = w7 at *
            go_wp2_with fail
            go_roundw
            case rel => exact ⟨j + 1, s, L, D, n3, m3, H, by omega, rfl, by go_num, HLn, by omega, O6, H6, V6, HH3, K6, hBx, hwx⟩
            case measure => simp [intOf]; omega
          ·
            have ka := (Keeps.refl (fun _ => False) w6).alloc (.cells #[.int .i64 0, .int .i64 0, .int .i64 0] 40)
            have H6 := hide (h6.quiet ka)
            have V6 := hide (HV3.out.more (show (j : Int) ≤ ((j + 1 : Nat) : Int) by omega))
            have O6 := hide ((HO.out.kept k6 (fun _ _ h => h)).kept ka (fun _ _ h => h))
            have K6 := hide ((HK.out.trans k6).trans ka)
            have hs6 := Nat.le_trans k6.size ka.size
            have hBx := Nat.le_trans hBr hs6
            have hwx := Nat.le_trans hwr hs6
            clear h6 k6 ka HO HK HA3 HV3
            go_upto_region 15 with fail
            generalize w6.alloc _ = w7 at *
            go_wp2_with fail
            go_roundw
            case rel => exact ⟨j + 1, s, L, D, n3, m3, H, by omega, rfl, by go_num, HLn, by omega, O6, H6, V6, HH3, K6, hBx, hwx⟩
            case measure => simp [intOf]; omega
          ·
            have ka := (Keeps.refl (fun _ => False) w6).alloc (.cells #[.int .i64 i, .int .i64 k, .int .i64 age] 40)
            have X6 := hide (Blk.new w6 40 #[.int .i64 i, .int .i64 k, .int .i64 age])
            have H6 := hide (h6.quiet ka)
            have V6 := hide v6
            have G6 := hide g6
            have O6 := hide ((HO.out.kept k6 (fun b hb hS => by obtain ⟨cs, h4⟩ := HO.out.blk hb; exact ArS.not h4 (by decide) (by decide) (by decide) hS)).kept ka (fun _ _ h => h))
            have K6 := hide ((ArS.to0 HK.out k6 hwB).trans ka)
            have hB6 : B0 ≤ (w6.alloc (.cells #[.int .i64 i, .int .i64 k, .int .i64 age] 40)).heap.size := Nat.le_trans hBr (Nat.le_trans k6.size ka.size)
            have hw6 : w2.heap.size ≤ (w6.alloc (.cells #[.int .i64 i, .int .i64 k, .int .i64 age] 40)).heap.size := Nat.le_trans hwr (Nat.le_trans k6.size ka.size)
            have hX6 : w2.heap.size ≤ w6.heap.size := Nat.le_trans hwr k6.size
            clear h6 v6 g6 k6 ka HO HK HA3 HV3
            go_upto_region 16 with fail
            trace "R16"
            generalize w6.alloc _ = w7 at *
            generalize w6.heap.size = X at *
            go_wp2_with fail
            trace "INNER"
            go_loopw [15, 87] (fun _ iv w' => ∃ p : Nat, p ≤ n3 ∧ iv = .int .i64 p ∧ Hid (Keeps (fun _ => False) w7 w')) (fun _ iv _ => n3 - (intOf iv).toNat)
            case atStart => exact ⟨0, by omega, rfl, hide (Keeps.refl _ _)⟩
            case round =>
              obtain ⟨p, hp, rfl, KI⟩ := hrel
              by_cases hpn : p < n3
              · have HPN : Hid (p + 1 ≤ n3) := hpn
                obtain ⟨x, hx⟩ : ∃ x, H[p]? = some x := ⟨H[p]'(by rw [HLn.out]; exact hpn), by simp⟩
                obtain ⟨g0, g1, g2⟩ := hdCs_at hx
                obtain ⟨C3, rfl, _⟩ := O6.out.some_ (by omega)
                have OI := O6.out.kept KI.out (fun _ _ h => h)
                have q0 := OI.cell (p * 3) (by omega)
                have q1 := OI.cell (p * 3 + 1) (by omega)
                have q2 := OI.cell (p * 3 + 2) (by omega)
                rw [g0] at q0
                rw [g1] at q1
                rw [g2] at q2
                have XI := X6.out.kept KI.out (fun h => h)
                have r0 := XI.cell 0
                have r1 := XI.cell 1
                have hXI : X < wr.heap.size := XI.lt
                simp only [List.getElem?_toArray, List.getElem?_cons_zero, List.getElem?_cons_succ] at r0 r1
                have hpI : (p : Int) < (n3 : Int) := by omega
                have hp0 : (0 : Int) ≤ (p : Int) := by omega
                have hdiff : ¬ (x.1 = i ∧ x.2.1 = k) := fun e => by
                  have h1 := HH3.out.1.get hx
                  rw [e.1, e.2] at h1
                  exact G6.out.old _ _ h1
                have hKI := hide (KI.out.alloc (.cells #[.int .i64 x.1, .int .i64 x.2.1, .int .i64 x.2.2] 40))
                clear hx g0 g1 g2 OI XI
                by_cases hxi : x.1 = i
                · have f1 : (((x.1 : Nat) : Int) == (i : Int)) = true := by simp [hxi]
                  have f2 : (((x.2.1 : Nat) : Int) == (k : Int)) = false := by
                    have : ¬ x.2.1 = k := fun e => hdiff ⟨hxi, e⟩
                    simp only [beq_eq_false_iff_ne, ne_eq]; omega
                  clear hdiff hxi
                  go_wp2_with fail
                  go_roundw
                  case rel => exact ⟨p + 1, HPN.out, by go_num, hKI⟩
                  case measure => have := HPN.out; simp [intOf]; omega
                · have f1 : (((x.1 : Nat) : Int) == (i : Int)) = false := by simp only [beq_eq_false_iff_ne, ne_eq]; omega
                  clear hdiff hxi
                  go_wp2_with fail
                  go_roundw
                  case rel => exact ⟨p + 1, HPN.out, by go_num, hKI⟩
                  case measure => have := HPN.out; simp [intOf]; omega
              · obtain rfl : p = n3 := by omega
                have X7 := X6.out.kept KI.out (fun h => h)
                obtain ⟨⟨r0, r1, r2⟩, _, hX7⟩ := X7.three
                have HA7 := hide (H6.out.quiet KI.out)
                have O7 := hide (O6.out.kept KI.out (fun _ _ h => h))
                have K7 := hide (K6.out.trans KI.out)
                have hB7 : B0 ≤ wr.heap.size := Nat.le_trans hB6 KI.out.size
                have hw7 : w2.heap.size ≤ wr.heap.size := Nat.le_trans hw6 KI.out.size
                have hwa : IntKind.u8.wrap age = age := by rw [IntKind.wrap_u8]; omega
                have kb := (Keeps.refl (fun _ => False) wr).alloc (.cells #[.int .u8 age] 5)
                have HA8 := hide (HA7.out.quiet kb)
                have X8 := hide (X7.kept kb (fun h => h))
                have O8 := hide (O7.out.kept kb (fun _ _ h => h))
                have K8 := hide (K7.out.trans kb)
                have RB := hide (show Rd (wr.alloc (.cells #[.int .u8 age] 5)) (wr.alloc (.cells #[.int .u8 age] 5)).heap.size (some ⟨wr.heap.size, 0, none⟩) 1 1 ([dB age].map by8) from by
                  have := (Blk.new wr 5 ([dB age].map by8).toArray).rd (n := 1) (sz := 1) rfl
                  simpa [by8_dB, hwa] using this)
                have hB8 : B0 ≤ (wr.alloc (.cells #[.int .u8 age] 5)).heap.size := Nat.le_trans hB7 kb.size
                have hw8 : w2.heap.size ≤ (wr.alloc (.cells #[.int .u8 age] 5)).heap.size := Nat.le_trans hw7 kb.size
                clear X7 kb HA7 O7 K7 K6 O6 H6 X6
                go_wp2_with fail
                trace "WRITE"
                have hlv6 : LV s6 i k age [] := (G6.out.lvs i k age []).2 (.inl ⟨rfl, rfl, rfl, rfl⟩)
                obtain ⟨c6, hc6, hc6b⟩ : ∃ c6, s6.cls[i]? = some c6 ∧ 1 ≤ c6.size := by obtain ⟨c6, x6, h1, _⟩ := hlv6; exact ⟨c6, h1, (V6.out.cb i c6 h1).2.2.1⟩
                refine (write_any B0 a s6 L6 (j + 1) i k age [] c6 _ 1 1 _ [dB age] _ HA8.out V6.out hlv6 hc6 (by omega) RB.out (Nat.le_refl _) hB8).mono ?_
                rintro e w9 ⟨rfl, ⟨s9, L9, h9, v9, g9⟩, k9⟩
                have HH9 : Hid (Held s9 (H ++ [(i, k, age)]) ∧ s9.faults = 0) := hide ⟨HH3.out.1.got G6.out g9, (g9.faults.trans G6.out.faults).trans HH3.out.2⟩
                have HA9 := hide h9
                have HV9 := hide v9
                have O9 := hide (O8.out.kept k9 (fun b hb hS => by obtain ⟨cs, h4⟩ := O8.out.blk hb; exact ArS.not h4 (by decide) (by decide) (by decide) hS))
                have X9 := hide (X8.out.kept k9 (ArS.not X8.out (by decide) (by decide) (by decide)))
                have K9 := hide (ArS.to0 K8.out k9 hwB)
                have hB9 := Nat.le_trans hB8 k9.size
                have hw9 := Nat.le_trans hw8 k9.size
                clear hlv6 hc6 hc6b h9 v9 g9 k9 HA8 V6 O8 X8 K8 RB HH3 G6 r0 r1 r2 hX7 hB8 hw8
                obtain ⟨⟨r0, r1, r2⟩, _, hX9⟩ := X9.out.three
                go_wp2_with (at_builtin; refine wpList_app _ elemH rfl (.tmp 112) (.tmp 114) rfl w2.heap.size _ rfl (O9.out.kept ((Keeps.refl (fun _ => False) w9).alloc _) (fun _ _ h => h)) _ (m := 1) [.int .i64 i, .int .i64 k, .int .i64 age] rfl (by exact Blk.rd (xs := [.int .i64 i, .int .i64 k, .int .i64 age]) (Blk.new_at _ _ _ _ (by simp)) rfl) (by simp [Value.oneCell']) (by simp only [maxLen]; omega) (by omega) (by simp; omega) ?_; intro A7 c7 w10 o7 k7 hA7; have hkA := (Keeps.refl (fun _ => False) w9).alloc (.cells #[.int .i64 i, .int .i64 k, .int .i64 age] 40); have O10 := hide o7; have HA10 := hide (IsAr.kept (HA9.out.quiet hkA) k7 (fun b hb => by obtain ⟨cs, h4⟩ := (O9.out.kept hkA (fun _ _ h => h)).blk hb; exact .inr ⟨_, _, h4, by decide, by decide, by decide, by decide⟩)); have K10 := hide ((K9.out.trans hkA).step k7 (fun b hb h => by have := O9.out.inB h; omega)); have hs10 := Nat.le_trans hkA.size k7.size; clear o7 k7 hA7 hkA)
                trace "RNDB"
                go_roundw
                case rel =>
                  refine ⟨j + 1, s9, L9, A7, p + 1, c7, H ++ [(i, k, age)], by omega, rfl, by go_num, hide (by simp [HLn.out]), by omega, ?_, HA10, hide (by have := HV9.out; push_cast; exact this), HH9, K10, Nat.le_trans hB9 hs10, Nat.le_trans hw9 hs10⟩
                  rw [hdCs_app]
                  exact O10.out
                case measure => simp [intOf]; omega
    · have hle := HO.out.le
      by_cases hjn : j < n2
      · have hj40 : ¬ ((j : Int) < 40) := by omega
        have e3 : decide ((j : Int) < (n2 : Int)) = true := by simpa using hjn
        have e4 : decide ((j : Int) < 40) = false := by simp; omega
        go_upto_region 25 with fail
        trace "T25"
        go_wp2_with fail
        trace "T26"
        (try clear e4)
        clear e3
        go_loopw [17, 18, 19, 118] (fun _ _ _ iv w' => ∃ p : Nat, p ≤ n3 ∧ iv = .int .i64 p ∧ Hid (Keeps (fun _ => False) wr w')) (fun _ _ _ iv _ => n3 - (intOf iv).toNat)
        case atStart => exact ⟨0, by omega, rfl, hide (Keeps.refl _ _)⟩
        case round =>
          obtain ⟨p, hp, rfl, KI⟩ := hrel
          by_cases hpn : p < n3
          · have HPN : Hid (p + 1 ≤ n3) := hpn
            obtain ⟨x, hx⟩ : ∃ x, H[p]? = some x := ⟨H[p]'(by rw [HLn.out]; exact hpn), by simp⟩
            obtain ⟨g0, g1, g2⟩ := hdCs_at hx
            obtain ⟨C3, rfl, _⟩ := HO.out.some_ (by omega)
            have OI := HO.out.kept KI.out (fun _ _ h => h)
            have q0 := OI.cell (p * 3) (by omega)
            have q1 := OI.cell (p * 3 + 1) (by omega)
            have q2 := OI.cell (p * 3 + 2) (by omega)
            rw [g0] at q0
            rw [g1] at q1
            rw [g2] at q2
            have hpI : (p : Int) < (n3 : Int) := by omega
            have hp0 : (0 : Int) ≤ (p : Int) := by omega
            have HG := hide (HH3.out.1.get hx)
            obtain ⟨gi, hgi⟩ : ∃ gi, gi = x.2.2 := ⟨_, rfl⟩
            rw [← hgi] at q2 HG
            have kc := KI.out.alloc (.cells #[.int .i64 x.1, .int .i64 x.2.1, .int .i64 gi] 40)
            have KC := hide kc
            have BC := Blk.new wr 40 #[.int .i64 x.1, .int .i64 x.2.1, .int .i64 gi]
            have HBC := hide BC
            have HAC := hide (HA3.out.quiet kc)
            have hBC := Nat.le_trans hBr kc.size
            clear hx g0 g1 g2 OI kc hgi
            go_upto_region 28 with fail
            trace "T28"
            generalize wr.alloc _ = w7 at *
            generalize wr.heap.size = X at *
            obtain ⟨⟨r0, r1, r2⟩, _, hX⟩ := HBC.out.three
            go_wp2_with fail
            trace "READ"
            have hra := read_any B0 a s L j x.1 x.2.1 gi [dB gi] w7 HAC.out HV3.out HG.out hBC
            rw [show [dB gi].length = 1 from rfl] at hra
            refine hra.mono ?_
            rintro e w8 ⟨⟨D8, m8, rfl, o8⟩, k8⟩
            obtain ⟨C8, rfl, _⟩ := o8.some_ (by omega)
            have c8 := o8.cell 0 (by omega)
            have c8' : w8.cell? ⟨C8, 0, none⟩ = some (.int .u8 (IntKind.u8.wrap gi)) := by rw [c8]; simp [by8_dB]
            have B8 := HBC.out.kept k8 (fun h => h)
            obtain ⟨⟨s0, s1, s2⟩, _, hX8⟩ := B8.three
            have K8 := hide (KC.out.trans k8)
            clear hra o8 c8 k8 B8 KC HBC HAC r0 r1 r2
            go_upto_region 29 with fail
            trace "T29"
            go_quiet (fail)
            go_wp2_with fail
            go_roundw
            case rel => exact ⟨p + 1, HPN.out, by go_num, hide (by first | exact K8.out | exact K8.out.drewN _)⟩
            case measure => have := HPN.out; simp [intOf]; omega
          · obtain rfl : p = n3 := by omega
            have HU := usage_inv B0 a s L j wr (HA3.out.quiet KI.out) HV3.out
            rw [HH3.out.2] at HU
            obtain ⟨nb, hnb⟩ : ∃ nb, nb = bytesN s.cls s.cls.length := ⟨_, rfl⟩
            obtain ⟨sl, hsl⟩ : ∃ sl, sl = s.cls.length := ⟨_, rfl⟩
            rw [← hnb, ← hsl] at HU
            have HUh := hide HU
            have K9 := hide (HK.out.trans KI.out)
            have hfu := fun x y z w => field_u x y z w
            clear HU hnb hsl HK KI HA3 HV3 HO HH3
            go_wp2_with fail
            trace "USAGE"
            refine HUh.out.mono ?_
            rintro e w12 ⟨D, m, rfl, _, k12⟩
            have K12 := hide (K9.out.trans k12)
            clear k12 HUh
            go_wp2_with fail
            trace "AWAKE"
            refine (awake08 _).mono ?_
            rintro e w14 ⟨rfl, k14⟩
            have K14 := hide (K12.out.trans k14)
            clear k14
            go_wp2_with fail
            go_ret
            exact ⟨rfl, K14.out⟩
      · have e3 : decide ((j : Int) < (n2 : Int)) = false := by simpa using hjn
        have e4 : ¬ ((j : Int) < (n2 : Int)) := by omega
        go_upto_region 25 with fail
        trace "T25"
        go_wp2_with fail
        trace "T26"
        (try clear e4)
        clear e3
        go_loopw [17, 18, 19, 118] (fun _ _ _ iv w' => ∃ p : Nat, p ≤ n3 ∧ iv = .int .i64 p ∧ Hid (Keeps (fun _ => False) wr w')) (fun _ _ _ iv _ => n3 - (intOf iv).toNat)
        case atStart => exact ⟨0, by omega, rfl, hide (Keeps.refl _ _)⟩
        case round =>
          obtain ⟨p, hp, rfl, KI⟩ := hrel
          by_cases hpn : p < n3
          · have HPN : Hid (p + 1 ≤ n3) := hpn
            obtain ⟨x, hx⟩ : ∃ x, H[p]? = some x := ⟨H[p]'(by rw [HLn.out]; exact hpn), by simp⟩
            obtain ⟨g0, g1, g2⟩ := hdCs_at hx
            obtain ⟨C3, rfl, _⟩ := HO.out.some_ (by omega)
            have OI := HO.out.kept KI.out (fun _ _ h => h)
            have q0 := OI.cell (p * 3) (by omega)
            have q1 := OI.cell (p * 3 + 1) (by omega)
            have q2 := OI.cell (p * 3 + 2) (by omega)
            rw [g0] at q0
            rw [g1] at q1
            rw [g2] at q2
            have hpI : (p : Int) < (n3 : Int) := by omega
            have hp0 : (0 : Int) ≤ (p : Int) := by omega
            have HG := hide (HH3.out.1.get hx)
            obtain ⟨gi, hgi⟩ : ∃ gi, gi = x.2.2 := ⟨_, rfl⟩
            rw [← hgi] at q2 HG
            have kc := KI.out.alloc (.cells #[.int .i64 x.1, .int .i64 x.2.1, .int .i64 gi] 40)
            have KC := hide kc
            have BC := Blk.new wr 40 #[.int .i64 x.1, .int .i64 x.2.1, .int .i64 gi]
            have HBC := hide BC
            have HAC := hide (HA3.out.quiet kc)
            have hBC := Nat.le_trans hBr kc.size
            clear hx g0 g1 g2 OI kc hgi
            go_upto_region 28 with fail
            trace "T28"
            generalize wr.alloc _ = w7 at *
            generalize wr.heap.size = X at *
            obtain ⟨⟨r0, r1, r2⟩, _, hX⟩ := HBC.out.three
            go_wp2_with fail
            trace "READ"
            have hra := read_any B0 a s L j x.1 x.2.1 gi [dB gi] w7 HAC.out HV3.out HG.out hBC
            rw [show [dB gi].length = 1 from rfl] at hra
            refine hra.mono ?_
            rintro e w8 ⟨⟨D8, m8, rfl, o8⟩, k8⟩
            obtain ⟨C8, rfl, _⟩ := o8.some_ (by omega)
            have c8 := o8.cell 0 (by omega)
            have c8' : w8.cell? ⟨C8, 0, none⟩ = some (.int .u8 (IntKind.u8.wrap gi)) := by rw [c8]; simp [by8_dB]
            have B8 := HBC.out.kept k8 (fun h => h)
            obtain ⟨⟨s0, s1, s2⟩, _, hX8⟩ := B8.three
            have K8 := hide (KC.out.trans k8)
            clear hra o8 c8 k8 B8 KC HBC HAC r0 r1 r2
            go_upto_region 29 with fail
            trace "T29"
            go_quiet (fail)
            go_wp2_with fail
            go_roundw
            case rel => exact ⟨p + 1, HPN.out, by go_num, hide (by first | exact K8.out | exact K8.out.drewN _)⟩
            case measure => have := HPN.out; simp [intOf]; omega
          · obtain rfl : p = n3 := by omega
            have HU := usage_inv B0 a s L j wr (HA3.out.quiet KI.out) HV3.out
            rw [HH3.out.2] at HU
            obtain ⟨nb, hnb⟩ : ∃ nb, nb = bytesN s.cls s.cls.length := ⟨_, rfl⟩
            obtain ⟨sl, hsl⟩ : ∃ sl, sl = s.cls.length := ⟨_, rfl⟩
            rw [← hnb, ← hsl] at HU
            have HUh := hide HU
            have K9 := hide (HK.out.trans KI.out)
            have hfu := fun x y z w => field_u x y z w
            clear HU hnb hsl HK KI HA3 HV3 HO HH3
            go_wp2_with fail
            trace "USAGE"
            refine HUh.out.mono ?_
            rintro e w12 ⟨D, m, rfl, _, k12⟩
            have K12 := hide (K9.out.trans k12)
            clear k12 HUh
            go_wp2_with fail
            trace "AWAKE"
            refine (awake08 _).mono ?_
            rintro e w14 ⟨rfl, k14⟩
            have K14 := hide (K12.out.trans k14)
            clear k14
            go_wp2_with fail
            go_ret
            exact ⟨rfl, K14.out⟩
theorem walk (w : World) (A1 : Option Addr) (n1 c1 : Nat) (z1 : List Int) (r1 : Rd w w.heap.size A1 1 n1 (z1.map (.int .i64))) (b1 : ∀ z ∈ z1, -9223372036854775808 ≤ z ∧ z < 9223372036854775808) (s1 : n1 * 8 ≤ 140737488351232) (l1 : n1 ≤ c1)
    (A2 : Option Addr) (n2 c2 : Nat) (z2 : List Int) (r2 : Rd w w.heap.size A2 1 n2 (z2.map (.int .i64))) (b2 : ∀ z ∈ z2, -9223372036854775808 ≤ z ∧ z < 9223372036854775808) (s2 : n2 * 8 ≤ 140737488351232) (l2 : n2 ≤ c2) :
    Calls Try.prog 6 #[.slice A1 n1 c1, .slice A2 n2 c2] w fun e w' => e = .returned (.bool true) ∧ Below w.heap.size w w' :=
  (main w A1 n1 c1 z1 r1 b1 (by omega) A2 n2 c2 z2 r2 b2 (by omega)).mono fun e w' ⟨he, hk⟩ => ⟨he, hk.done⟩
end arenaDistinct
end Go.Proofs.Ytidobhflijdccaa
