/-
  The laws of layer 2 (varint): the walks.
-/
import Derived.Test.YtgbbboodfgbfiaaVarintR
import Derived.Test.YtgbbboodfgbfiaaVarintW
import Derived.Test.YtgbbboodfgbfiaaSame
set_option linter.unusedVariables false
set_option linter.unusedSimpArgs false
namespace Go.Proofs.Ytgbbboodfgbfiaa
open Go.RowKit
open Vp

/-- a slice of bytes as an argument: its bytes -/
theorem bytes_of {W : World} {B n : Nat} {A : Option Addr} {zs : List Int} (hr : Rd W B A 1 n (zs.map (.int .u8))) (hb : ∀ z ∈ zs, 0 ≤ z ∧ z < 256) :
    ∃ l : List UInt8, Rd W B A 1 n (l.map by8) ∧ l.length = n := by
  refine ⟨zs.map (fun z => z.toNat.toUInt8), ?_, by simpa using hr.1⟩
  have e : (zs.map (fun z => z.toNat.toUInt8)).map by8 = zs.map (.int .u8) := by
    rw [List.map_map]
    refine List.map_congr_left fun z hz => ?_
    have := hb z hz
    show Value.int .u8 ((z.toNat.toUInt8.toNat : Nat) : Int) = _
    rw [u8_toNat _ (by omega)]
    congr 1; omega
  rw [e]; exact hr

theorem awake02 (w : World) : Calls Try.prog 28 #[] w fun e w' => e = .returned (.bool true) ∧ Keeps (fun _ => False) w w' := by
  have R1 := fun w => Blk.rd (w := World.alloc w (.cells #[by8 128, by8 1] 5)) (xs := [by8 128, by8 1]) (sz := 1) (n := 2) (Blk.new w 5 _) rfl
  have H1 := hide (fun w => Varint.read_any [128, 1] (some ⟨w.heap.size, 0, none⟩) 2 2 _ _ (R1 w) (by omega))
  rw [show Varint.out [128, 1] = .tuple #[.int .u64 128, .int .i64 2, .int .i64 0] from by unfold Varint.out; rw [show parse [128, 1] = (128, 2, 0) from by decide +kernel]; rfl] at H1
  have R1' := hide R1
  clear R1
  simp only [by8] at H1
  go_enter Try.func28, Try.ntmps28
  go_wp2_with fail
  refine (H1.out _).mono ?_
  rintro e w1 ⟨rfl, rfl⟩
  go_wp2_with fail
  refine (Varint.append_any [] none 0 0 0 _ (Rd.zero rfl) (by omega) (by omega) 128 (by omega) (by omega)).mono ?_
  rintro e w1 ⟨A, n, c, hn, rfl, ho, k1⟩
  have K1 := hide (((Keeps.refl (fun _ => False) w).alloc _).step0 k1)
  have O1 := hide ho
  rw [show [] ++ enc (128 : Int).toNat = [128, 1] from by decide +kernel] at O1 hn
  obtain rfl : n = 2 := hn
  clear k1 ho
  go_wp2_with fail
  refine (same_any [128, 1] [128, 1] A _ 2 2 c _ _ _ _ (by exact (O1.out.rd (by omega)).kept ((Keeps.refl (fun _ => False) _).alloc _) (fun _ _ h => h)) (by exact Blk.rd (xs := [by8 128, by8 1]) (Blk.new _ _ _) rfl) (by omega) (by omega)).mono ?_
  rintro e w2 ⟨rfl, nq, rfl⟩
  go_wp2_with fail
  go_ret
  exact ⟨rfl, (K1.out.alloc _).drewN _⟩

namespace varintAppend
theorem walk (w : World) (A : Option Addr) (m c : Nat) (zs : List Int) (hr0 : Rd w w.heap.size A 1 m (zs.map (.int .u8))) (hb : ∀ z ∈ zs, 0 ≤ z ∧ z < 256) (hm : m * 1 ≤ 140737488351232) (hmc : m ≤ c)
    (x : Int) (x0 : 0 ≤ x) (x1 : x < 18446744073709551616) (s : Int) (s0 : 0 ≤ s) (s1 : s < 256) :
    Calls Try.prog 11 #[.slice A m c, .int .u64 x, .int .u8 s] w fun e w' => e = .returned (.bool true) ∧ Below w.heap.size w w' := by
  obtain ⟨l, hr, hl⟩ := bytes_of hr0 hb
  by_cases h1 : 100 < m
  · go_enter Try.func11, Try.ntmps11
    go_wp2_with fail
    refine (awake02 _).mono ?_; rintro e w' ⟨rfl, k⟩
    go_wp2_with fail
    go_ret
    exact ⟨rfl, k.done⟩
  · have HR := hide hr
    have HL := hide hl
    have e0 : (0 : Int) ≤ s % 64 := by omega
    have e1 : s % 64 < 64 := by omega
    clear hr hl hr0 hb
    go_enter Try.func11, Try.ntmps11
    go_wp2_with fail
    refine (Varint.append_any l A m c _ _ HR.out (Nat.le_refl _) (by omega) x x0 x1).mono ?_
    rintro e w1 ⟨A1, n1, c1, hn1, rfl, o1, k1⟩
    have L1 := hide hn1
    have hle1 := k1.size
    have R1 := hide (HR.out.kept k1 (fun _ _ h => h))
    have K1 := hide k1
    have O1 := hide (o1.rd (by omega))
    clear k1 o1 hn1
    go_wp2_with fail
    refine (Varint.rappend_any l A m c _ _ R1.out (by omega) (by omega) x x0 x1).mono ?_
    rintro e w2 ⟨A2, n2, c2, hn2, rfl, o2, k2⟩
    have L2 := hide hn2
    have hle2 := k2.size
    have R2 := hide (R1.out.kept k2 (fun _ _ h => h))
    have K2 := hide (K1.out.trans k2)
    have O1' := hide (O1.out.kept k2 (fun _ _ h => h))
    have O2 := hide (o2.rd (by omega))
    have hlen : Hid ((l ++ enc x.toNat).length ≤ 110) := by
      have h1 := enc_len x.toNat
      have h2 := HL.out
      show (l ++ enc x.toNat).length ≤ 110
      rw [List.length_append]; omega
    clear k2 o2 hn2 R1 K1 O1
    go_wp2_with fail
    refine (same_any _ _ A1 A2 n1 n2 c1 c2 _ _ _ O1'.out O2.out (by rw [L1.out]; have := hlen.out; omega) (by rw [L2.out]; have := hlen.out; omega)).mono ?_
    rintro e w3 ⟨rfl, q3, rfl⟩
    rw [decide_eq_true (rfl : l ++ enc x.toNat = l ++ enc x.toNat)]
    clear L1 L2 hlen O1' O2
    have M0 : 0 ≤ x / 2 ^ (s % 64).toNat := Int.ediv_nonneg x0 (Int.pow_nonneg (by omega))
    have M1 : x / 2 ^ (s % 64).toNat < 18446744073709551616 := by have := Int.ediv_le_self (2 ^ (s % 64).toNat) x0; omega
    generalize x / 2 ^ (s % 64).toNat = y at *
    go_wp2_with fail
    refine (Varint.append_any l A m c _ _ (R2.out.drewN _) (by simp; omega) (by omega) y M0 M1).mono ?_
    rintro e w4 ⟨A1, n1, c1, hn1, rfl, o1, k1⟩
    have L1 := hide hn1
    have hle1 := k1.size
    have R1 := hide ((R2.out.drewN q3).kept k1 (fun _ _ h => h))
    have K1 := hide ((K2.out.drewN q3).trans k1)
    have O1 := hide (o1.rd (by omega))
    simp only [World.heap_drewN] at hle1
    clear k1 o1 hn1 R2 K2
    go_wp2_with fail
    refine (Varint.rappend_any l A m c _ _ R1.out (by omega) (by omega) y M0 M1).mono ?_
    rintro e w5 ⟨A2, n2, c2, hn2, rfl, o2, k2⟩
    have L2 := hide hn2
    have hle2 := k2.size
    have R2 := hide (R1.out.kept k2 (fun _ _ h => h))
    have K2 := hide (K1.out.trans k2)
    have O1' := hide (O1.out.kept k2 (fun _ _ h => h))
    have O2 := hide (o2.rd (by omega))
    have hlen : Hid ((l ++ enc y.toNat).length ≤ 110) := by
      have h1 := enc_len y.toNat
      have h2 := HL.out
      show (l ++ enc y.toNat).length ≤ 110
      rw [List.length_append]; omega
    clear k2 o2 hn2 R1 K1 O1
    go_wp2_with fail
    refine (same_any _ _ A1 A2 n1 n2 c1 c2 _ _ _ O1'.out O2.out (by rw [L1.out]; have := hlen.out; omega) (by rw [L2.out]; have := hlen.out; omega)).mono ?_
    rintro e w3 ⟨rfl, q4, rfl⟩
    rw [decide_eq_true (rfl : l ++ enc y.toNat = l ++ enc y.toNat)]
    clear L1 L2 hlen O1' O2
    have lx := enc_len x.toNat
    have ly := enc_len y.toNat
    obtain ⟨a, ha⟩ : ∃ a, a = (enc x.toNat).length := ⟨_, rfl⟩
    obtain ⟨b, hb⟩ : ∃ b, b = (enc y.toNat).length := ⟨_, rfl⟩
    have S1 := hide (fun w => Varint.size_any x x0 x1 w)
    have S2 := hide (fun w => Varint.rsize_any x x0 x1 w)
    have S3 := hide (fun w => Varint.size_any y M0 M1 w)
    have S4 := hide (fun w => Varint.rsize_any y M0 M1 w)
    rw [← ha] at S1 S2 lx
    rw [← hb] at S3 S4 ly
    clear ha hb
    go_wp2_with fail
    refine (S1.out _).mono ?_; rintro e w6 ⟨rfl, rfl⟩
    go_wp2_with fail
    refine (S2.out _).mono ?_; rintro e w6 ⟨rfl, k6⟩
    have K6 := hide ((K2.out.drewN _).trans k6)
    clear k6
    go_wp2_with fail
    refine (S3.out _).mono ?_; rintro e w7 ⟨rfl, rfl⟩
    go_wp2_with fail
    refine (S4.out _).mono ?_; rintro e w7 ⟨rfl, k7⟩
    have K7 := hide (K6.out.trans k7)
    clear k7
    go_wp2_with fail
    refine (awake02 _).mono ?_; rintro e w8 ⟨rfl, k8⟩
    go_wp2_with fail
    go_ret
    exact ⟨rfl, (K7.out.trans k8).done⟩
end varintAppend

namespace varintRead
theorem walk (w : World) (A : Option Addr) (m c : Nat) (zs : List Int) (hr0 : Rd w w.heap.size A 1 m (zs.map (.int .u8))) (hb : ∀ z ∈ zs, 0 ≤ z ∧ z < 256) (hm : m * 1 ≤ 140737488351232) (hmc : m ≤ c)
    (hi : Int) (hi0 : 0 ≤ hi) (hi1 : hi < 256) (s : Int) (s0 : 0 ≤ s) (s1 : s < 256) :
    Calls Try.prog 8 #[.slice A m c, .int .u8 hi, .int .u8 s] w fun e w' => e = .returned (.bool true) ∧ Below w.heap.size w w' := by
  obtain ⟨l, hr, hl⟩ := bytes_of hr0 hb
  by_cases h1 : 100 < m
  · go_enter Try.func8, Try.ntmps8
    go_wp2_with fail
    refine (awake02 _).mono ?_; rintro e w' ⟨rfl, k⟩
    go_wp2_with fail
    go_ret
    exact ⟨rfl, k.done⟩
  · have HR := hide hr
    have HL := hide hl
    clear hr hl hr0 hb
    go_enter Try.func8, Try.ntmps8
    go_wp2_with (at_builtin; refine wpList_app _ elem8 rfl (.tmp 22) (.tmp 23) rfl w.heap.size _ rfl (Own.new _ _ 5 #[] 0 1 (Nat.le_refl _) (by simp [maxLen]) rfl) w.heap.size _ rfl (HR.out.kept ((Keeps.refl (fun _ => False) w).alloc _) (fun _ _ h => h)) (by8_one l) (by simp [maxLen]; omega) (by omega) (by simp) ?_; intro A1 c1 w1 o1 k1 _)
    rw [Nat.zero_add] at o1
    have O1 := hide (show Own w1 w.heap.size 5 1 A1 m c1 (l.map by8) by simpa using o1)
    have K1 := hide (((Keeps.refl (fun _ => False) w).alloc (.cells #[] 5)).step k1 (fun k h => by rw [inB_some]; omega))
    clear o1 k1
    have hq0 : 0 ≤ hi % 14 := by omega
    have hq1 : hi % 14 < 14 := by omega
    go_loopw [8] (fun i wr => ∃ (k : Nat) (l' : List UInt8), i = .int .i64 k ∧ k ≤ m ∧ (k : Int) ≤ hi % 14 ∧ Own wr w.heap.size 5 1 A1 m c1 (l'.map by8) ∧ Keeps (fun _ => False) w wr) (fun i _ => m - (intOf i).toNat)
    case atStart => exact ⟨0, l, rfl, by omega, by omega, O1.out, K1.out⟩
    case round =>
      obtain ⟨k, l', rfl, hk, hkq, own, kp⟩ := hrel
      have OWN := hide own
      have KP := hide kp
      clear own kp
      have hcase : (k < m ∧ (k : Int) < hi % 14) ∨ (k < m ∧ hi % 14 = (k : Int)) ∨ (k = m ∧ (k : Int) ≤ hi % 14) := by omega
      rcases hcase with ⟨hkm, hkh⟩ | hcase
      · obtain ⟨g, rfl, hg, hg2⟩ := OWN.out.some_ (by omega)
        have hl' : l'.length = m := by simpa using OWN.out.len
        have hc1 := OWN.out.cell k (by omega)
        rw [show (l'.map by8)[k]? = some (by8 (l'.getD k 0)) from by simp [List.getD, show k < l'.length by omega]] at hc1
        have hf := OWN.out.frozen k
        simp only [by8] at hc1
        have hp := (l'.getD k 0).toNat_lt
        have HL' := hide hl'
        generalize (l'.getD k 0).toNat = p at *
        clear hl'
        go_wp2_with fail
        have hbb := wf_u8 (wf_bits .or .u8 (p : Int) 128)
        obtain ⟨q, hq⟩ := by8_of _ hbb.1 hbb.2
        have HQ := hide hq
        clear hq hbb
        go_roundw
        case rel =>
          refine ⟨k + 1, l'.set k q, by go_num, by omega, by omega, ?_, Keeps.setCell (p := ⟨g, k, none⟩) KP.out (.inr hg) _⟩
          have := OWN.out.store k (by8 q)
          rw [HQ.out] at this
          rw [List.map_set, HQ.out]
          exact this
        case measure => simp [intOf]; omega
      · have hl' : l'.length = m := by simpa using OWN.out.len
        have hA0 : Option.map (fun x : Addr => x.add 0) A1 = A1 := by cases A1 <;> simp [Addr.add]
        have hle := OWN.out.le
        have hg := KP.out.size
        obtain ⟨q, hq⟩ := by8_of s s0 s1
        have RD := hide ((OWN.out.rd (by omega)).take1 (show k ≤ m by omega))
        have hkl : Hid ((l'.take k).length = k) := by show (l'.take k).length = k; rw [List.length_take]; omega
        have HQ := hide hq
        have HL' := hide hl'
        clear hl' hq
        rcases hcase with ⟨hkm, hkh⟩ | ⟨rfl, hkh⟩
        ·
          go_wp2_with (first
            | (at_builtin; refine wpList_app _ elem8 rfl (.tmp 44) (.tmp 52) rfl w.heap.size _ rfl (Own.new _ _ 5 #[] 0 1 (by exact hg) (by simp [maxLen]) rfl) wr.heap.size (m := k) _ rfl (RD.out.kept ((Keeps.refl (fun _ => False) wr).alloc _) (fun _ _ h => h)) (by8_one _) (by simp [maxLen]; omega) (by omega) (by simp; omega) ?_; intro A2 c2 w2 o2 k2 hA2; rw [Nat.zero_add, List.nil_append] at o2)
            | (at_builtin; refine wpList_app _ elem8 rfl (.tmp 53) (.tmp 55) rfl w.heap.size _ rfl (by exact o2.kept ((Keeps.refl (fun _ => False) _).alloc _) (fun _ _ h => h)) _ [by8 q] rfl (by rw [HQ.out]; exact Blk.rd (xs := [Value.int .u8 s]) (Blk.new _ _ _) rfl) (by8_one [q]) (by simp [maxLen]; omega) (by omega) (by have := k2.size; simp at this; simp; omega) ?_; intro A3 c3 w3 o3 k3 _))
          have K2 : Keeps (fun j => wr.heap.size ≤ j) wr w2 := ((Keeps.refl _ wr).alloc _).step k2 (fun j _ h => by have := (inB_some _ _ _).1 h; show wr.heap.size ≤ j; omega)
          have K3 : Keeps (fun j => wr.heap.size ≤ j) wr w3 := (K2.alloc _).step k3 (fun j _ h => by
            rcases hA2 j h with h | h
            · have := (inB_some _ _ _).1 h; show wr.heap.size ≤ j; omega
            · simp at h; show wr.heap.size ≤ j; omega)
          obtain ⟨W, hW⟩ : ∃ W, W = w3.alloc (.cells #[.slice A m c, .slice A1 m c1, .slice A3 (k + 1) c3] 42) := ⟨_, rfl⟩
          have KW : Keeps (fun j => wr.heap.size ≤ j) wr W := by rw [hW]; exact K3.alloc _
          have KWW : Keeps (fun _ => False) w W := KP.out.step KW (fun j hj h => by omega)
          have RA := hide (HR.out.kept KWW (fun _ _ h => h))
          have RC := hide ((OWN.out.rd (by omega)).kept KW (fun j hj h => by omega))
          have RD3 : Hid (Rd W w3.heap.size A3 1 (k + 1) ((l'.take k ++ [q]).map by8)) := by
            rw [hW, List.map_append]
            exact (o3.rd (by omega)).kept ((Keeps.refl (fun _ => False) w3).alloc _) (fun _ _ h => h)
          rw [← hW]
          have BW : Blk W w3.heap.size 42 #[.slice A m c, .slice A1 m c1, .slice A3 (k + 1) c3] := by rw [hW]; exact Blk.new _ _ _
          have b0 := BW.cell 0
          have b1 := BW.cell 1
          have b2 := BW.cell 2
          simp only [List.getElem?_toArray, List.getElem?_cons_zero, List.getElem?_cons_succ] at b0 b1 b2
          have KW' := hide KWW
          clear hW BW KW KWW K3 K2 k2 k3 o2 o3 hA2 RD OWN KP HQ
          go_loop [62] (fun i => ∃ j : Nat, j ≤ 3 ∧ i = .int .i64 j) (fun i => 3 - (intOf i).toNat)
          case atStart => exact ⟨0, by omega, rfl⟩
          case round =>
            obtain ⟨j, hj, rfl⟩ := hrel
            have hj4 : j = 0 ∨ j = 1 ∨ j = 2 ∨ j = 3 := by omega
            rcases hj4 with rfl | rfl | rfl | rfl
            ·
              obtain ⟨pa, pb, pe, ho⟩ : ∃ a b e : Int, Varint.out l = .tuple #[.int .u64 a, .int .i64 b, .int .i64 e] := ⟨_, _, _, rfl⟩
              have H1 := hide (Varint.read_any l _ (m) c _ W RA.out (by omega))
              have H2 := hide (Varint.rread_any l _ (m) c _ W RA.out (by omega))
              rw [ho] at H1 H2
              clear ho
              go_wp2_with fail
              refine H1.out.mono ?_; rintro e w' ⟨rfl, rfl⟩
              go_wp2_with fail
              refine H2.out.mono ?_; rintro e w' ⟨rfl, rfl⟩
              go_wp2_with fail
              go_round
              case rel => exact ⟨1, by omega, by go_num⟩
              case measure => simp [intOf]
            ·
              obtain ⟨pa, pb, pe, ho⟩ : ∃ a b e : Int, Varint.out l' = .tuple #[.int .u64 a, .int .i64 b, .int .i64 e] := ⟨_, _, _, rfl⟩
              have H1 := hide (Varint.read_any l' _ (m) c1 _ W RC.out (by omega))
              have H2 := hide (Varint.rread_any l' _ (m) c1 _ W RC.out (by omega))
              rw [ho] at H1 H2
              clear ho
              go_wp2_with fail
              refine H1.out.mono ?_; rintro e w' ⟨rfl, rfl⟩
              go_wp2_with fail
              refine H2.out.mono ?_; rintro e w' ⟨rfl, rfl⟩
              go_wp2_with fail
              go_round
              case rel => exact ⟨2, by omega, by go_num⟩
              case measure => simp [intOf]
            ·
              obtain ⟨pa, pb, pe, ho⟩ : ∃ a b e : Int, Varint.out (l'.take k ++ [q]) = .tuple #[.int .u64 a, .int .i64 b, .int .i64 e] := ⟨_, _, _, rfl⟩
              have H1 := hide (Varint.read_any (l'.take k ++ [q]) _ (k + 1) c3 _ W RD3.out (by omega))
              have H2 := hide (Varint.rread_any (l'.take k ++ [q]) _ (k + 1) c3 _ W RD3.out (by omega))
              rw [ho] at H1 H2
              clear ho
              go_wp2_with fail
              refine H1.out.mono ?_; rintro e w' ⟨rfl, rfl⟩
              go_wp2_with fail
              refine H2.out.mono ?_; rintro e w' ⟨rfl, rfl⟩
              go_wp2_with fail
              go_round
              case rel => exact ⟨3, by omega, by go_num⟩
              case measure => simp [intOf]
            · go_wp2_with fail
              refine (awake02 _).mono ?_; rintro e w' ⟨rfl, kk⟩
              go_wp2_with fail
              go_ret
              exact ⟨rfl, (KW'.out.trans kk).done⟩
        ·
          go_wp2_with (first
            | (at_builtin; refine wpList_app _ elem8 rfl (.tmp 44) (.tmp 52) rfl w.heap.size _ rfl (Own.new _ _ 5 #[] 0 1 (by exact hg) (by simp [maxLen]) rfl) wr.heap.size (m := k) _ rfl (RD.out.kept ((Keeps.refl (fun _ => False) wr).alloc _) (fun _ _ h => h)) (by8_one _) (by simp [maxLen]; omega) (by omega) (by simp; omega) ?_; intro A2 c2 w2 o2 k2 hA2; rw [Nat.zero_add, List.nil_append] at o2)
            | (at_builtin; refine wpList_app _ elem8 rfl (.tmp 53) (.tmp 55) rfl w.heap.size _ rfl (by exact o2.kept ((Keeps.refl (fun _ => False) _).alloc _) (fun _ _ h => h)) _ [by8 q] rfl (by rw [HQ.out]; exact Blk.rd (xs := [Value.int .u8 s]) (Blk.new _ _ _) rfl) (by8_one [q]) (by simp [maxLen]; omega) (by omega) (by have := k2.size; simp at this; simp; omega) ?_; intro A3 c3 w3 o3 k3 _))
          have K2 : Keeps (fun j => wr.heap.size ≤ j) wr w2 := ((Keeps.refl _ wr).alloc _).step k2 (fun j _ h => by have := (inB_some _ _ _).1 h; show wr.heap.size ≤ j; omega)
          have K3 : Keeps (fun j => wr.heap.size ≤ j) wr w3 := (K2.alloc _).step k3 (fun j _ h => by
            rcases hA2 j h with h | h
            · have := (inB_some _ _ _).1 h; show wr.heap.size ≤ j; omega
            · simp at h; show wr.heap.size ≤ j; omega)
          obtain ⟨W, hW⟩ : ∃ W, W = w3.alloc (.cells #[.slice A k c, .slice A1 k c1, .slice A3 (k + 1) c3] 42) := ⟨_, rfl⟩
          have KW : Keeps (fun j => wr.heap.size ≤ j) wr W := by rw [hW]; exact K3.alloc _
          have KWW : Keeps (fun _ => False) w W := KP.out.step KW (fun j hj h => by omega)
          have RA := hide (HR.out.kept KWW (fun _ _ h => h))
          have RC := hide ((OWN.out.rd (by omega)).kept KW (fun j hj h => by omega))
          have RD3 : Hid (Rd W w3.heap.size A3 1 (k + 1) ((l'.take k ++ [q]).map by8)) := by
            rw [hW, List.map_append]
            exact (o3.rd (by omega)).kept ((Keeps.refl (fun _ => False) w3).alloc _) (fun _ _ h => h)
          rw [← hW]
          have BW : Blk W w3.heap.size 42 #[.slice A k c, .slice A1 k c1, .slice A3 (k + 1) c3] := by rw [hW]; exact Blk.new _ _ _
          have b0 := BW.cell 0
          have b1 := BW.cell 1
          have b2 := BW.cell 2
          simp only [List.getElem?_toArray, List.getElem?_cons_zero, List.getElem?_cons_succ] at b0 b1 b2
          have KW' := hide KWW
          clear hW BW KW KWW K3 K2 k2 k3 o2 o3 hA2 RD OWN KP HQ
          go_loop [62] (fun i => ∃ j : Nat, j ≤ 3 ∧ i = .int .i64 j) (fun i => 3 - (intOf i).toNat)
          case atStart => exact ⟨0, by omega, rfl⟩
          case round =>
            obtain ⟨j, hj, rfl⟩ := hrel
            have hj4 : j = 0 ∨ j = 1 ∨ j = 2 ∨ j = 3 := by omega
            rcases hj4 with rfl | rfl | rfl | rfl
            ·
              obtain ⟨pa, pb, pe, ho⟩ : ∃ a b e : Int, Varint.out l = .tuple #[.int .u64 a, .int .i64 b, .int .i64 e] := ⟨_, _, _, rfl⟩
              have H1 := hide (Varint.read_any l _ (k) c _ W RA.out (by omega))
              have H2 := hide (Varint.rread_any l _ (k) c _ W RA.out (by omega))
              rw [ho] at H1 H2
              clear ho
              go_wp2_with fail
              refine H1.out.mono ?_; rintro e w' ⟨rfl, rfl⟩
              go_wp2_with fail
              refine H2.out.mono ?_; rintro e w' ⟨rfl, rfl⟩
              go_wp2_with fail
              go_round
              case rel => exact ⟨1, by omega, by go_num⟩
              case measure => simp [intOf]
            ·
              obtain ⟨pa, pb, pe, ho⟩ : ∃ a b e : Int, Varint.out l' = .tuple #[.int .u64 a, .int .i64 b, .int .i64 e] := ⟨_, _, _, rfl⟩
              have H1 := hide (Varint.read_any l' _ (k) c1 _ W RC.out (by omega))
              have H2 := hide (Varint.rread_any l' _ (k) c1 _ W RC.out (by omega))
              rw [ho] at H1 H2
              clear ho
              go_wp2_with fail
              refine H1.out.mono ?_; rintro e w' ⟨rfl, rfl⟩
              go_wp2_with fail
              refine H2.out.mono ?_; rintro e w' ⟨rfl, rfl⟩
              go_wp2_with fail
              go_round
              case rel => exact ⟨2, by omega, by go_num⟩
              case measure => simp [intOf]
            ·
              obtain ⟨pa, pb, pe, ho⟩ : ∃ a b e : Int, Varint.out (l'.take k ++ [q]) = .tuple #[.int .u64 a, .int .i64 b, .int .i64 e] := ⟨_, _, _, rfl⟩
              have H1 := hide (Varint.read_any (l'.take k ++ [q]) _ (k + 1) c3 _ W RD3.out (by omega))
              have H2 := hide (Varint.rread_any (l'.take k ++ [q]) _ (k + 1) c3 _ W RD3.out (by omega))
              rw [ho] at H1 H2
              clear ho
              go_wp2_with fail
              refine H1.out.mono ?_; rintro e w' ⟨rfl, rfl⟩
              go_wp2_with fail
              refine H2.out.mono ?_; rintro e w' ⟨rfl, rfl⟩
              go_wp2_with fail
              go_round
              case rel => exact ⟨3, by omega, by go_num⟩
              case measure => simp [intOf]
            · go_wp2_with fail
              refine (awake02 _).mono ?_; rintro e w' ⟨rfl, kk⟩
              go_wp2_with fail
              go_ret
              exact ⟨rfl, (KW'.out.trans kk).done⟩
end varintRead
end Go.Proofs.Ytgbbboodfgbfiaa
