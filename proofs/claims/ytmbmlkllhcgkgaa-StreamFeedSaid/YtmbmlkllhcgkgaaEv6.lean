/-
  law06.bytes: some bytes, at most 30000.
-/
import Derived.Test.YtmbmlkllhcgkgaaEv5
set_option linter.unusedVariables false
set_option linter.unusedSimpArgs false
namespace Go.Proofs.Ytmbmlkllhcgkgaa
open Go.RowKit
open Vp

def BytesOf (w : World) (e : Ending) (w' : World) : Prop :=
  ∃ (A : Option Addr) (n c : Nat) (l : List UInt8), e = .returned (.slice A n c) ∧ n ≤ 30000 ∧ Own w' w.heap.size 5 1 A n c (l.map by8) ∧ Keeps (fun _ => False) w w'

set_option maxRecDepth 100000 in
set_option maxHeartbeats 2000000 in
theorem bytes_any (A : Option Addr) (n c : Nat) (zs : List Int) (w : World) (hr : Rd w w.heap.size A 1 n (zs.map (.int .i64))) (hz : ∀ z ∈ zs, -9223372036854775808 ≤ z ∧ z < 9223372036854775808) (hn : n ≤ 35184372088832) :
    Calls Try.prog 8 #[.slice A n c] w (BytesOf w) := by
  have HN := hide (new_deck A n c zs w.heap.size w (Nat.le_refl _) hr hz hn)
  clear hr hz
  go_enter Try.func8, Try.ntmps8
  go_wp2_with fail
  refine HN.out.mono ?_
  rintro e w1 ⟨rfl, d1, k1⟩
  have D1 := hide d1
  have K1 := hide k1
  have O1 := hide (Own.nil w1 (w.heap.size + 1) 5 1)
  clear d1 k1 HN
  go_wp2_with fail
  refine (next_any 5 (by omega) (by omega) w.heap.size w.heap.size _ D1.out).mono ?_
  rintro e w2 ⟨x, rfl, x0, x1, dw2, kw2⟩
  have Ow2 := hide (O1.out.kept kw2 (fun b hb e => by have := O1.out.inB hb; omega))
  have Kw2 := hide (K1.out.step kw2 (fun b hb e => by omega))
  have Dw2 := hide dw2
  have hsw2 := Kw2.out.size
  clear kw2 dw2
  clear D1 O1 K1
  go_wp2_with fail
  go_loopw [4, 5] (fun bv kv wr => ∃ (kk : Int) (A : Option Addr) (n c : Nat) (l : List UInt8), kv = .int .i64 kk ∧ 0 ≤ kk ∧ kk ≤ 4 ∧ bv = .slice A n c ∧ n + 5100 * kk ≤ 20400 ∧ Own wr (w.heap.size + 1) 5 1 A n c (l.map by8) ∧ IsDeck wr w.heap.size w.heap.size ∧ Keeps (fun _ => False) w wr) (fun _ kv _ => (intOf kv).toNat)
  case atStart => exact ⟨x, none, 0, 0, [], rfl, by omega, by omega, rfl, by omega, Ow2.out, Dw2.out, Kw2.out⟩
  case round =>
    obtain ⟨kk, A4, n4, c4, l4, rfl, q0, q1, rfl, hn4, o4, d4, kp⟩ := hrel
    have O4 := hide o4
    have D4 := hide d4
    have KP := hide kp
    have hs := kp.size
    clear Ow2 Dw2 Kw2 hsw2 o4 d4 kp
    by_cases hlt : 0 < kk
    · go_wp2_with fail
      refine (next_any 5 (by omega) (by omega) w.heap.size w.heap.size _ D4.out).mono ?_
      rintro e w3 ⟨y, rfl, y0, y1, dw3, kw3⟩
      have Ow3 := hide (O4.out.kept kw3 (fun b hb e => by have := O4.out.inB hb; omega))
      have Kw3 := hide (KP.out.step kw3 (fun b hb e => by omega))
      have Dw3 := hide dw3
      have hsw3 := Kw3.out.size
      clear kw3 dw3
      clear D4 O4 KP hs
      go_wp2_with fail
      · trace "CASE 0"
        refine (next_any 6 (by omega) (by omega) w.heap.size w.heap.size _ Dw3.out).mono ?_
        rintro e w4 ⟨z, rfl, z0, z1, dw4, kw4⟩
        have Ow4 := hide (Ow3.out.kept kw4 (fun b hb e => by have := Ow3.out.inB hb; omega))
        have Kw4 := hide (Kw3.out.step kw4 (fun b hb e => by omega))
        have Dw4 := hide dw4
        have hsw4 := Kw4.out.size
        clear kw4 dw4
        clear Dw3 Ow3 Kw3 hsw3
        go_wp2_with fail
        refine (Varint.rappend_any _ A4 n4 c4 _ _ (Ow4.out.rd (by omega)) (by omega) (by omega) (z) (by omega) (by omega)).mono ?_
        rintro e w5 ⟨Aw5, nw5, cw5, hnw5, rfl, ow5, kw5⟩
        have hbw5 : nw5 ≤ n4 + 10 := by
          have h9 := enc_len (z).toNat
          have h8 := Ow4.out.len
          simp only [List.length_map, List.length_append] at hnw5 h8
          omega
        have oX : Own w5 (w.heap.size + 1) 5 1 Aw5 nw5 cw5 _ := ow5.base_le (by have := IsDeck.lt Dw4.out; omega)
        have Ow5 := hide oX
        have Kw5 := hide (Kw4.out.trans kw5)
        have Dw5 := hide (IsDeck.quiet Dw4.out kw5)
        have hsw5 := Kw5.out.size
        clear kw5 ow5 hnw5 oX
        clear Ow4 Kw4 Dw4 hsw4
        go_wp2_with fail
        refine (next_any 6 (by omega) (by omega) w.heap.size w.heap.size _ Dw5.out).mono ?_
        rintro e w6 ⟨u, rfl, u0, u1, dw6, kw6⟩
        have Ow6 := hide (Ow5.out.kept kw6 (fun b hb e => by have := Ow5.out.inB hb; omega))
        have Kw6 := hide (Kw5.out.step kw6 (fun b hb e => by omega))
        have Dw6 := hide dw6
        have hsw6 := Kw6.out.size
        clear kw6 dw6
        clear Dw5 Ow5 Kw5 hsw5
        go_wp2_with (at_builtin; refine wpList_app_zero _ rfl _ _ rfl (w.heap.size + 1) _ rfl Ow6.out u rfl (by omega) (by omega) (by omega) (by have := IsDeck.lt Dw6.out; omega) ?_; intro A7 c7 w7 o7 k7 hA7; have O7 := hide o7; have K7 := hide (Kw6.out.step k7 (fun b hb h => by have := Ow6.out.inB h; omega)); have D7 := hide (IsDeck.kept Dw6.out k7 (fun h => by have := Ow6.out.inB h; omega) (fun b hb h => by have := Ow6.out.inB h; omega)); clear o7 k7 hA7)
        go_roundw
        case rel => exact ⟨kk - 1, A7, _, c7, _, by first | rfl | go_num, by omega, by omega, rfl, by omega, O7.out, D7.out, K7.out⟩
        case measure => simp [intOf]; omega
      · trace "CASE 1"
        refine (next_any 30 (by omega) (by omega) w.heap.size w.heap.size _ Dw3.out).mono ?_
        rintro e w4 ⟨z, rfl, z0, z1, dw4, kw4⟩
        have Ow4 := hide (Ow3.out.kept kw4 (fun b hb e => by have := Ow3.out.inB hb; omega))
        have Kw4 := hide (Kw3.out.step kw4 (fun b hb e => by omega))
        have Dw4 := hide dw4
        have hsw4 := Kw4.out.size
        clear kw4 dw4
        clear Dw3 Ow3 Kw3 hsw3
        go_wp2_with fail
        refine (Varint.rappend_any _ A4 n4 c4 _ _ (Ow4.out.rd (by omega)) (by omega) (by omega) (4097 + z) (by omega) (by omega)).mono ?_
        rintro e w5 ⟨Aw5, nw5, cw5, hnw5, rfl, ow5, kw5⟩
        have hbw5 : nw5 ≤ n4 + 10 := by
          have h9 := enc_len (4097 + z).toNat
          have h8 := Ow4.out.len
          simp only [List.length_map, List.length_append] at hnw5 h8
          omega
        have oX : Own w5 (w.heap.size + 1) 5 1 Aw5 nw5 cw5 _ := ow5.base_le (by have := IsDeck.lt Dw4.out; omega)
        have Ow5 := hide oX
        have Kw5 := hide (Kw4.out.trans kw5)
        have Dw5 := hide (IsDeck.quiet Dw4.out kw5)
        have hsw5 := Kw5.out.size
        clear kw5 ow5 hnw5 oX
        clear Ow4 Kw4 Dw4 hsw4
        go_wp2_with fail
        refine (next_any 5000 (by omega) (by omega) w.heap.size w.heap.size _ Dw5.out).mono ?_
        rintro e w6 ⟨u, rfl, u0, u1, dw6, kw6⟩
        have Ow6 := hide (Ow5.out.kept kw6 (fun b hb e => by have := Ow5.out.inB hb; omega))
        have Kw6 := hide (Kw5.out.step kw6 (fun b hb e => by omega))
        have Dw6 := hide dw6
        have hsw6 := Kw6.out.size
        clear kw6 dw6
        clear Dw5 Ow5 Kw5 hsw5
        go_wp2_with (at_builtin; refine wpList_app_zero _ rfl _ _ rfl (w.heap.size + 1) _ rfl Ow6.out u rfl (by omega) (by omega) (by omega) (by have := IsDeck.lt Dw6.out; omega) ?_; intro A7 c7 w7 o7 k7 hA7; have O7 := hide o7; have K7 := hide (Kw6.out.step k7 (fun b hb h => by have := Ow6.out.inB h; omega)); have D7 := hide (IsDeck.kept Dw6.out k7 (fun h => by have := Ow6.out.inB h; omega) (fun b hb h => by have := Ow6.out.inB h; omega)); clear o7 k7 hA7)
        go_roundw
        case rel => exact ⟨kk - 1, A7, _, c7, _, by first | rfl | go_num, by omega, by omega, rfl, by omega, O7.out, D7.out, K7.out⟩
        case measure => simp [intOf]; omega
      · trace "CASE 2"
        refine (next_any 12 (by omega) (by omega) w.heap.size w.heap.size _ Dw3.out).mono ?_
        rintro e w4 ⟨z, rfl, z0, z1, dw4, kw4⟩
        have Ow4 := hide (Ow3.out.kept kw4 (fun b hb e => by have := Ow3.out.inB hb; omega))
        have Kw4 := hide (Kw3.out.step kw4 (fun b hb e => by omega))
        have Dw4 := hide dw4
        have hsw4 := Kw4.out.size
        clear kw4 dw4
        clear Dw3 Ow3 Kw3 hsw3
        go_wp2_with fail
        obtain ⟨wo, hwo⟩ : ∃ wo : World, wo = w4 := ⟨_, rfl⟩
        clear hwo
        go_loopw [4, 6] (fun bv iv wr => ∃ (ii : Int) (A : Option Addr) (n c : Nat) (l : List UInt8), iv = .int .i64 ii ∧ 0 ≤ ii ∧ ii ≤ 12 ∧ bv = .slice A n c ∧ n + ii ≤ n4 + 12 ∧ Own wr (w.heap.size + 1) 5 1 A n c (l.map by8) ∧ IsDeck wr w.heap.size w.heap.size ∧ Keeps (fun _ => False) w wr) (fun _ iv _ => (intOf iv).toNat)
        case atStart => exact ⟨z, A4, n4, c4, l4, rfl, by omega, by omega, rfl, by omega, Ow4.out, Dw4.out, Kw4.out⟩
        case round =>
          obtain ⟨ii, A5, n5, c5, l5, rfl, p0, p1, rfl, hn5, o5, d5, k5⟩ := hrel
          have O5 := hide o5
          have D5 := hide d5
          have K5 := hide k5
          have hs5 := d5.lt
          clear Ow4 Dw4 Kw4 hsw4 o5 d5 k5
          by_cases hi : 0 < ii
          · go_wp2_with (at_builtin; refine wpList_app _ elem8 rfl (.tmp 57) (.tmp 58) rfl (w.heap.size + 1) _ rfl (O5.out.kept ((Keeps.refl (fun _ => False) _).alloc _) (fun _ _ h => h)) _ (m := 1) ([255].map by8) rfl (by exact Blk.rd (xs := [by8 255]) (Blk.new_at _ _ _ _ (by first | rfl | simp)) (by rfl)) (by8_one _) (by simp only [maxLen]; omega) (by omega) (by first | omega | (simp; omega)) ?_; intro A7 c7 w7 o7 k7 hA7; rw [← List.map_append] at o7; have O7 := hide o7; have K7 := hide ((K5.out.alloc (.cells #[.int .u8 255] 5)).step k7 (fun b hb h => by have := O5.out.inB h; omega)); have D7 := hide (IsDeck.kept (IsDeck.quiet D5.out ((Keeps.refl (fun _ => False) _).alloc (.cells #[.int .u8 255] 5))) k7 (fun h => by have := O5.out.inB h; omega) (fun b hb h => by have := O5.out.inB h; omega)); clear o7 k7 hA7)
            go_roundw
            case rel => exact ⟨ii - 1, A7, _, c7, _, by first | rfl | go_num, by omega, by omega, rfl, by omega, O7.out, D7.out, K7.out⟩
            case measure => simp [intOf]; omega
          · go_wp2_with fail
            go_roundw
            case rel => exact ⟨kk - 1, A5, _, c5, _, by first | rfl | go_num, by omega, by omega, rfl, by omega, O5.out, D5.out, K5.out⟩
            case measure => simp [intOf]; omega
      · trace "DEFAULT"
        have HEV := hide (events_any w.heap.size w.heap.size _ Dw3.out)
        go_wp2_with fail
        refine HEV.out.mono ?_
        rintro e w4 ⟨C, m, mc, cells, rfl, m0, m1, oc, ec, d4, k4⟩
        have OC := hide (oc.rd (by omega))
        have EC := hide ec
        have O4 := hide (Ow3.out.kept k4 (fun b hb e => by have := Ow3.out.inB hb; omega))
        have K4 := hide (Kw3.out.step k4 (fun b hb e => by omega))
        have D4 := hide d4
        have hs4 := K4.out.size
        clear oc ec d4 k4 HEV Ow3 Kw3 Dw3 hsw3
        go_wp2_with fail
        refine (rframe_any C m mc _ cells _ OC.out EC.out m0 m1).mono ?_
        rintro e w5 ⟨A5, n5, c5, l5, rfl, hn5, o5, k5⟩
        have O5 := hide (o5.rd (by omega))
        have OB := hide (O4.out.kept k5 (fun _ _ h => h))
        have K5 := hide (K4.out.trans k5)
        have D5 := hide (IsDeck.quiet D4.out k5)
        have hs5 := IsDeck.lt D5.out
        clear o5 k5 O4 K4 D4 OC EC
        go_wp2_with (at_builtin; refine wpList_app _ elem8 rfl (.tmp 25) (.tmp 26) rfl (w.heap.size + 1) _ rfl OB.out _ (m := n5) _ rfl O5.out (by8_one _) (by simp only [maxLen]; omega) (by omega) (by omega) ?_; intro A7 c7 w7 o7 k7 hA7; rw [← List.map_append] at o7; have O7 := hide o7; have K7 := hide (K5.out.step k7 (fun b hb h => by have := OB.out.inB h; omega)); have D7 := hide (IsDeck.kept D5.out k7 (fun h => by have := OB.out.inB h; omega) (fun b hb h => by have := OB.out.inB h; omega)); clear o7 k7 hA7)
        go_roundw
        case rel => exact ⟨kk - 1, A7, _, c7, _, by first | rfl | go_num, by omega, by omega, rfl, by omega, O7.out, D7.out, K7.out⟩
        case measure => simp [intOf]; omega
    · go_wp2_with fail
      go_ret
      exact ⟨A4, n4, c4, l4, rfl, by omega, O4.out.base_le (by omega), KP.out⟩
end Go.Proofs.Ytmbmlkllhcgkgaa
