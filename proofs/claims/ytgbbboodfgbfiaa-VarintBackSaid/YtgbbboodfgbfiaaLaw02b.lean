/-
  The laws of layer 2 (varint), the second half: the walks.
-/
import Derived.Test.YtgbbboodfgbfiaaLaw02
import Derived.Deep.RegionHeld3
set_option linter.unusedVariables false
set_option linter.unusedSimpArgs false
namespace Go.Proofs.Ytgbbboodfgbfiaa
open Go.RowKit
open Vp

namespace varintBack
theorem walk (w : World) (x : Int) (x0 : 0 ≤ x) (x1 : x < 18446744073709551616) (s : Int) (s0 : 0 ≤ s) (s1 : s < 256)
    (A : Option Addr) (m c : Nat) (zs : List Int) (hr0 : Rd w w.heap.size A 1 m (zs.map (.int .u8))) (hb : ∀ z ∈ zs, 0 ≤ z ∧ z < 256) (hm : m * 1 ≤ 140737488351232) (hmc : m ≤ c) :
    Calls Try.prog 12 #[.int .u64 x, .int .u8 s, .slice A m c] w fun e w' => e = .returned (.bool true) ∧ Below w.heap.size w w' := by
  obtain ⟨l, hr, hl⟩ := bytes_of hr0 hb
  have HR := hide hr
  have HL := hide hl
  have e0 : (0 : Int) ≤ s % 64 := by omega
  have e1 : s % 64 < 64 := by omega
  have M0 : 0 ≤ x / 2 ^ (s % 64).toNat := Int.ediv_nonneg x0 (Int.pow_nonneg (by omega))
  have M1 : x / 2 ^ (s % 64).toNat < 18446744073709551616 := by have := Int.ediv_le_self (2 ^ (s % 64).toNat) x0; omega
  clear hr hl hr0 hb
  go_enter Try.func12, Try.ntmps12
  go_wp2_with fail
  generalize x / 2 ^ (s % 64).toNat = y at *
  refine (Varint.append_any [] none 0 0 0 _ (Rd.zero rfl) (by omega) (by omega) y M0 M1).mono ?_
  rintro e w1 ⟨A1, n1, c1, hn1, rfl, o1, k1⟩
  have hen := enc_len y.toNat
  rw [List.nil_append] at o1 hn1
  obtain ⟨Y, hY⟩ : ∃ Y, Y = enc y.toNat := ⟨_, rfl⟩
  have S1 := hide (fun w => Varint.size_any y M0 M1 w)
  have RE := hide (parse_enc y.toNat (by omega) l)
  rw [← hY] at o1 hn1 hen S1 RE
  rw [← hn1] at hen S1 RE
  have HN := hide hn1
  have O1 := hide (o1.rd (by omega))
  have K1 := hide k1
  have hg := k1.size
  clear hY hn1 o1 k1
  go_wp2_with (first
    | (at_builtin; refine wpList_app _ elem8 rfl (.tmp 18) (.tmp 19) rfl w.heap.size _ rfl (Own.new _ _ 5 #[] 0 1 hg (by simp [maxLen]) rfl) w1.heap.size _ rfl (O1.out.kept ((Keeps.refl (fun _ => False) w1).alloc _) (fun _ _ h => h)) (by8_one _) (by simp only [maxLen]; omega) (by omega) (by simp; omega) ?_; intro A2 c2 w2 o2 k2 hA2; rw [Nat.zero_add, List.nil_append] at o2; have K2 := hide ((K1.out.alloc _).step k2 (fun j _ h => by have := (inB_some _ _ _).1 h; omega)); clear k2)
    | (at_builtin; refine wpList_app _ elem8 rfl (.tmp 20) (.tmp 21) rfl w.heap.size _ rfl o2 w.heap.size _ rfl (HR.out.kept K2.out (fun _ _ h => h)) (by8_one _) (by simp only [maxLen]; omega) (by omega) (by have := K2.out.size; omega) ?_; intro A3 c3 w3 o3 k3 _; rw [← List.map_append] at o3))
  have hown2 := fun j h => (o2.inB (k := j) h).1
  have K3 := hide (K2.out.step k3 (fun j _ h => by have := hown2 j h; omega))
  have H3 := hide (Varint.read_any (Y ++ l) A3 (n1 + m) c3 _ w3 (o3.rd (by omega)) (by omega))
  rw [show Varint.out (Y ++ l) = .tuple #[.int .u64 y, .int .i64 n1, .int .i64 0] from by
    unfold Varint.out
    rw [RE.out]
    show Value.tuple #[.int .u64 ((y.toNat : Nat) : Int), .int .i64 (n1 : Int), .int .i64 ((0 : Nat) : Int)] = _
    rw [show ((y.toNat : Nat) : Int) = y from by omega]; rfl] at H3
  clear RE k3 o2 o3 hown2 HN hA2
  refine H3.out.mono ?_; rintro e w4 ⟨rfl, rfl⟩
  go_wp2_with fail
  refine (S1.out _).mono ?_; rintro e w4 ⟨rfl, rfl⟩
  go_wp2_with fail
  refine (awake02 _).mono ?_; rintro e w5 ⟨rfl, kk⟩
  go_wp2_with fail
  go_ret
  exact ⟨rfl, (K3.out.trans kk).done⟩
end varintBack

namespace varintUnique
set_option maxHeartbeats 4000000 in
theorem walk (w : World) (A : Option Addr) (m c : Nat) (zs : List Int) (hr0 : Rd w w.heap.size A 1 m (zs.map (.int .u8))) (hb : ∀ z ∈ zs, 0 ≤ z ∧ z < 256) (hm : m * 1 ≤ 140737488351232) (hmc : m ≤ c)
    (hi : Int) (hi0 : 0 ≤ hi) (hi1 : hi < 256) :
    Calls Try.prog 9 #[.slice A m c, .int .u8 hi] w fun e w' => e = .returned (.bool true) ∧ Below w.heap.size w w' := by
  obtain ⟨l, hr, hl⟩ := bytes_of hr0 hb
  have HR := hide hr
  have HL := hide hl
  have hA0 : Option.map (fun x : Addr => x.add 0) A = A := by cases A <;> simp [Addr.add]
  clear hr0 hb hr hl
  obtain ⟨j, hj⟩ : ∃ j, j = min m 12 := ⟨_, rfl⟩
  have hjm : j ≤ m := by omega
  have hj12 : j ≤ 12 := by omega
  have hjc : (j = m ∧ m ≤ 12) ∨ (j = 12 ∧ 12 < m) := by omega
  clear hj
  have RJ := hide (HR.out.take1 hjm)
  have RJL : Hid ((l.take j).length = j) := by show (l.take j).length = j; rw [List.length_take, HL.out]; omega
  generalize l.take j = lj at *
  rcases hjc with ⟨rfl, h12⟩ | ⟨rfl, h12⟩
  ·
    go_enter Try.func9, Try.ntmps9
    go_wp2_with (at_builtin; refine wpList_app _ elem8 rfl (.tmp 10) (.tmp 15) rfl w.heap.size _ rfl (Own.new _ _ 5 #[] 0 1 (Nat.le_refl _) (by simp [maxLen]) rfl) w.heap.size _ rfl (RJ.out.kept ((Keeps.refl (fun _ => False) w).alloc _) (fun _ _ h => h)) (by8_one _) (by simp only [maxLen]; omega) (by omega) (by simp) ?_; intro A1 c1 w1 o1 k1 _; rw [Nat.zero_add, List.nil_append] at o1)
    have O1 := hide o1
    have K1 := hide (((Keeps.refl (fun _ => False) w).alloc (.cells #[] 5)).step k1 (fun k h => by rw [inB_some]; omega))
    clear o1 k1 HR HL RJ
    have hq0 : 0 ≤ hi % 12 := by omega
    have hq1 : hi % 12 < 12 := by omega
    go_loopw [6] (fun i wr => ∃ (k : Nat) (l' : List UInt8), i = .int .i64 k ∧ k ≤ j ∧ (k : Int) ≤ hi % 12 ∧ Own wr w.heap.size 5 1 A1 j c1 (l'.map by8) ∧ Keeps (fun _ => False) w wr) (fun i _ => j - (intOf i).toNat)
    case atStart => exact ⟨0, lj, rfl, by omega, by omega, O1.out, K1.out⟩
    case round =>
      obtain ⟨k, l', rfl, hk, hkq, own, kp⟩ := hrel
      have OWN := hide own
      have KP := hide kp
      clear own kp
      have hcase : (k < j ∧ (k : Int) < hi % 12) ∨ (k < j ∧ hi % 12 = (k : Int)) ∨ (k = j ∧ (k : Int) ≤ hi % 12) := by omega
      have hl' : l'.length = j := by simpa using OWN.out.len
      rcases hcase with ⟨hkm, hkh⟩ | hcase
      · obtain ⟨g, rfl, hg, hg2⟩ := OWN.out.some_ (by omega)
        have hc1 := OWN.out.cell k (by omega)
        rw [show (l'.map by8)[k]? = some (by8 (l'.getD k 0)) from by simp [List.getD, show k < l'.length by omega]] at hc1
        have hf := OWN.out.frozen k
        simp only [by8] at hc1
        have hp := (l'.getD k 0).toNat_lt
        have HL' := hide hl'
        generalize (l'.getD k 0).toNat = p at *
        clear hl'
        go_wp2_with fail
        have hbb := wf_u8 (wf_bits .or .u8 (p : Int) 128)
        obtain ⟨q, hq⟩ := by8_of _ hbb.1 hbb.2
        have HQ := hide hq
        clear hq hbb
        go_roundw
        case rel =>
          refine ⟨k + 1, l'.set k q, by go_num, by omega, by omega, ?_, Keeps.setCell (p := ⟨g, k, none⟩) KP.out (.inr hg) _⟩
          have := OWN.out.store k (by8 q)
          rw [HQ.out] at this
          rw [List.map_set, HQ.out]
          exact this
        case measure => simp [intOf]; omega
      · have HL' := hide hl'
        have hle := OWN.out.le
        have hg := KP.out.size
        have hA1 : Option.map (fun x : Addr => x.add 0) A1 = A1 := by cases A1 <;> simp [Addr.add]
        have RO := hide (OWN.out.rd (by omega))
        have H1 := hide (Varint.read_any l' A1 j c1 _ wr RO.out (by omega))
        have hok := parse_ok l'
        have herr := parse_err l'
        have htup : Varint.out l' = .tuple #[.int .u64 ((parse l').1 : Nat), .int .i64 ((parse l').2.1 : Nat), .int .i64 ((parse l').2.2 : Nat)] := rfl
        rw [htup] at H1
        clear htup hl'
        have hall : ∃ n u v : Int, n = ((parse l').1 : Nat) ∧ u = ((parse l').2.1 : Nat) ∧ v = ((parse l').2.2 : Nat) := ⟨_, _, _, rfl, rfl, rfl⟩
        obtain ⟨n, u, v, hn, hu, hv⟩ := hall
        rw [← hn, ← hu, ← hv] at H1
        by_cases hv0 : v = 0
        · subst hv0
          have hok' := hok (by omega)
          have hll := HL'.out
          have hu1 : 1 ≤ u := by omega
          have hu2 : u ≤ j := by omega
          have hn0 : 0 ≤ n := by omega
          have hn1 : n < 18446744073709551616 := by omega
          have HE : Hid (enc n.toNat = l'.take u.toNat) := by
            show enc n.toNat = l'.take u.toNat
            rw [hn, hu]; exact hok'.2.2.1
          have RU := hide (RO.out.take1 (show u.toNat ≤ j by omega))
          have HAP := hide (fun (w : World) => Varint.append_any [] none 0 0 0 w (Rd.zero rfl) (by omega) (by omega) n hn0 hn1)
          rw [HE.out, List.nil_append] at HAP
          have hlen : Hid ((l'.take u.toNat).length = u.toNat) := by show (l'.take u.toNat).length = u.toNat; rw [List.length_take]; omega
          generalize l'.take u.toNat = lu at *
          clear hok hok' herr hn hu hv hll HE RO
          have hu0 : (0 : Int) ≤ u := by omega
          have huc : u ≤ (c1 : Int) := by omega
          rcases hcase with ⟨hkm, hkh⟩ | ⟨rfl, hkh⟩
          all_goals
            go_wp2_with fail
            refine H1.out.mono ?_; rintro e w2 ⟨rfl, rfl⟩
            go_wp2_with fail
            go_region_held3 (fun _ => True) (exact trivial) (first
              | (go_at_call 32; refine (HAP.out _).mono ?_; rintro e w3 ⟨A2, n2, c2, hn2, rfl, o2, k2⟩; have HN2 := hide hn2; have KU := hide k2; have RU2 := hide (RU.out.drew.kept k2 (fun _ _ h => h)); have RA2 := hide (o2.rd (by omega)); clear hn2 o2 k2)
              | (go_at_call 31; refine (same_any _ _ A2 A1 n2 u.toNat c2 _ _ _ _ RA2.out RU2.out (by have := HN2.out; have := hlen.out; omega) (by omega)).mono ?_; rintro e w5 ⟨rfl, nq, rfl⟩; rw [decide_eq_true (rfl : lu = lu)])
              | (go_at_call 28; refine (awake02 _).mono ?_; rintro e w4 ⟨rfl, kk⟩))
            go_wp2_with fail
            go_ret
            exact ⟨rfl, Keeps.done (((KP.out.drew.trans KU.out).drewN _).trans kk)⟩
        · have herr' := herr (by omega)
          have hv1 : (v != 0) = true := by simpa using hv0
          have hn0 : n = 0 := by omega
          have hu0 : u = 0 := by omega
          subst hn0 hu0
          clear hok herr herr' hn hu hv hv0 RO
          rcases hcase with ⟨hkm, hkh⟩ | ⟨rfl, hkh⟩
          all_goals
            go_wp2_with fail
            refine H1.out.mono ?_; rintro e w2 ⟨rfl, rfl⟩
            go_wp2_with fail
            refine (awake02 _).mono ?_; rintro e w3 ⟨rfl, kk⟩
            go_wp2_with fail
            go_ret
            exact ⟨rfl, (KP.out.trans kk).done⟩
  ·
    go_enter Try.func9, Try.ntmps9
    go_wp2_with (at_builtin; refine wpList_app _ elem8 rfl (.tmp 10) (.tmp 15) rfl w.heap.size _ rfl (Own.new _ _ 5 #[] 0 1 (Nat.le_refl _) (by simp [maxLen]) rfl) w.heap.size _ rfl (RJ.out.kept ((Keeps.refl (fun _ => False) w).alloc _) (fun _ _ h => h)) (by8_one _) (by simp only [maxLen]; omega) (by omega) (by simp) ?_; intro A1 c1 w1 o1 k1 _; rw [Nat.zero_add, List.nil_append] at o1)
    have O1 := hide o1
    have K1 := hide (((Keeps.refl (fun _ => False) w).alloc (.cells #[] 5)).step k1 (fun k h => by rw [inB_some]; omega))
    clear o1 k1 HR HL RJ
    have hq0 : 0 ≤ hi % 12 := by omega
    have hq1 : hi % 12 < 12 := by omega
    go_loopw [6] (fun i wr => ∃ (k : Nat) (l' : List UInt8), i = .int .i64 k ∧ k ≤ 12 ∧ (k : Int) ≤ hi % 12 ∧ Own wr w.heap.size 5 1 A1 12 c1 (l'.map by8) ∧ Keeps (fun _ => False) w wr) (fun i _ => 12 - (intOf i).toNat)
    case atStart => exact ⟨0, lj, rfl, by omega, by omega, O1.out, K1.out⟩
    case round =>
      obtain ⟨k, l', rfl, hk, hkq, own, kp⟩ := hrel
      have OWN := hide own
      have KP := hide kp
      clear own kp
      have hcase : (k < 12 ∧ (k : Int) < hi % 12) ∨ (k < 12 ∧ hi % 12 = (k : Int)) ∨ (k = 12 ∧ (k : Int) ≤ hi % 12) := by omega
      have hl' : l'.length = 12 := by simpa using OWN.out.len
      rcases hcase with ⟨hkm, hkh⟩ | hcase
      · obtain ⟨g, rfl, hg, hg2⟩ := OWN.out.some_ (by omega)
        have hc1 := OWN.out.cell k (by omega)
        rw [show (l'.map by8)[k]? = some (by8 (l'.getD k 0)) from by simp [List.getD, show k < l'.length by omega]] at hc1
        have hf := OWN.out.frozen k
        simp only [by8] at hc1
        have hp := (l'.getD k 0).toNat_lt
        have HL' := hide hl'
        generalize (l'.getD k 0).toNat = p at *
        clear hl'
        go_wp2_with fail
        have hbb := wf_u8 (wf_bits .or .u8 (p : Int) 128)
        obtain ⟨q, hq⟩ := by8_of _ hbb.1 hbb.2
        have HQ := hide hq
        clear hq hbb
        go_roundw
        case rel =>
          refine ⟨k + 1, l'.set k q, by go_num, by omega, by omega, ?_, Keeps.setCell (p := ⟨g, k, none⟩) KP.out (.inr hg) _⟩
          have := OWN.out.store k (by8 q)
          rw [HQ.out] at this
          rw [List.map_set, HQ.out]
          exact this
        case measure => simp [intOf]; omega
      · have HL' := hide hl'
        have hle := OWN.out.le
        have hg := KP.out.size
        have hA1 : Option.map (fun x : Addr => x.add 0) A1 = A1 := by cases A1 <;> simp [Addr.add]
        have RO := hide (OWN.out.rd (by omega))
        have H1 := hide (Varint.read_any l' A1 12 c1 _ wr RO.out (by omega))
        have hok := parse_ok l'
        have herr := parse_err l'
        have htup : Varint.out l' = .tuple #[.int .u64 ((parse l').1 : Nat), .int .i64 ((parse l').2.1 : Nat), .int .i64 ((parse l').2.2 : Nat)] := rfl
        rw [htup] at H1
        clear htup hl'
        have hall : ∃ n u v : Int, n = ((parse l').1 : Nat) ∧ u = ((parse l').2.1 : Nat) ∧ v = ((parse l').2.2 : Nat) := ⟨_, _, _, rfl, rfl, rfl⟩
        obtain ⟨n, u, v, hn, hu, hv⟩ := hall
        rw [← hn, ← hu, ← hv] at H1
        by_cases hv0 : v = 0
        · subst hv0
          have hok' := hok (by omega)
          have hll := HL'.out
          have hu1 : 1 ≤ u := by omega
          have hu2 : u ≤ 12 := by omega
          have hn0 : 0 ≤ n := by omega
          have hn1 : n < 18446744073709551616 := by omega
          have HE : Hid (enc n.toNat = l'.take u.toNat) := by
            show enc n.toNat = l'.take u.toNat
            rw [hn, hu]; exact hok'.2.2.1
          have RU := hide (RO.out.take1 (show u.toNat ≤ 12 by omega))
          have HAP := hide (fun (w : World) => Varint.append_any [] none 0 0 0 w (Rd.zero rfl) (by omega) (by omega) n hn0 hn1)
          rw [HE.out, List.nil_append] at HAP
          have hlen : Hid ((l'.take u.toNat).length = u.toNat) := by show (l'.take u.toNat).length = u.toNat; rw [List.length_take]; omega
          generalize l'.take u.toNat = lu at *
          clear hok hok' herr hn hu hv hll HE RO
          have hu0 : (0 : Int) ≤ u := by omega
          have huc : u ≤ (c1 : Int) := by omega
          rcases hcase with ⟨hkm, hkh⟩ | ⟨rfl, hkh⟩
          all_goals
            go_wp2_with fail
            refine H1.out.mono ?_; rintro e w2 ⟨rfl, rfl⟩
            go_wp2_with fail
            go_region_held3 (fun _ => True) (exact trivial) (first
              | (go_at_call 32; refine (HAP.out _).mono ?_; rintro e w3 ⟨A2, n2, c2, hn2, rfl, o2, k2⟩; have HN2 := hide hn2; have KU := hide k2; have RU2 := hide (RU.out.drew.kept k2 (fun _ _ h => h)); have RA2 := hide (o2.rd (by omega)); clear hn2 o2 k2)
              | (go_at_call 31; refine (same_any _ _ A2 A1 n2 u.toNat c2 _ _ _ _ RA2.out RU2.out (by have := HN2.out; have := hlen.out; omega) (by omega)).mono ?_; rintro e w5 ⟨rfl, nq, rfl⟩; rw [decide_eq_true (rfl : lu = lu)])
              | (go_at_call 28; refine (awake02 _).mono ?_; rintro e w4 ⟨rfl, kk⟩))
            go_wp2_with fail
            go_ret
            exact ⟨rfl, Keeps.done (((KP.out.drew.trans KU.out).drewN _).trans kk)⟩
        · have herr' := herr (by omega)
          have hv1 : (v != 0) = true := by simpa using hv0
          have hn0 : n = 0 := by omega
          have hu0 : u = 0 := by omega
          subst hn0 hu0
          clear hok herr herr' hn hu hv hv0 RO
          rcases hcase with ⟨hkm, hkh⟩ | ⟨rfl, hkh⟩
          all_goals
            go_wp2_with fail
            refine H1.out.mono ?_; rintro e w2 ⟨rfl, rfl⟩
            go_wp2_with fail
            refine (awake02 _).mono ?_; rintro e w3 ⟨rfl, kk⟩
            go_wp2_with fail
            go_ret
            exact ⟨rfl, (KP.out.trans kk).done⟩
end varintUnique
end Go.Proofs.Ytgbbboodfgbfiaa
