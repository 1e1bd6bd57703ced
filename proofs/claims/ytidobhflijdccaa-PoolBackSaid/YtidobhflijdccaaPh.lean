/-
  PoolBack: the text of a number is the key that was interned, and a key has one number as long as it has users. No conditions beyond those of the statement.
-/
import Derived.Test.YtidobhflijdccaaPs
import Derived.Test.YtidobhflijdccaaPg
import Derived.Test.YtidobhflijdccaaArgS
set_option linter.unusedVariables false
set_option linter.unusedSimpArgs false
namespace Go.Proofs.Ytidobhflijdccaa
open Go.RowKit Cfp
theorem takes_keep {E E' : List PE} {key : List UInt8} {id : Nat} (h : Takes E E' key id) {i : Nat} {x : PE} (hx : E[i]? = some x) (hu : 0 < x.users) : ∃ y, E'[i]? = some y ∧ 0 < y.users ∧ y.key = x.key := by
  rcases h with ⟨z, hz, hzu, hk, rfl⟩ | ⟨z, E1, q, hno, hE1, hz, hzu, h1, hl, rfl⟩
  · rw [List.getElem?_set]
    split
    · next e =>
      subst e
      rw [hx] at hz; injection hz with hz; subst hz
      exact ⟨{ x with users := x.users + 1 }, by rw [if_pos (List.getElem?_eq_some_iff.1 hx).1], by dsimp only; omega, rfl⟩
    · exact ⟨x, hx, hu, rfl⟩
  · have h1x : E1[i]? = some x := by
      rcases hE1 with rfl | rfl
      · exact hx
      · rw [List.getElem?_append_left (List.getElem?_eq_some_iff.1 hx).1]; exact hx
    rw [List.getElem?_set]
    split
    · next e =>
      subst e
      rw [h1x] at hz; injection hz with hz; subst hz
      omega
    · exact ⟨x, h1x, hu, rfl⟩
theorem takes_has {E E' : List PE} {key : List UInt8} {id : Nat} (h : Takes E E' key id) : ∃ y, E'[id]? = some y ∧ 0 < y.users ∧ y.key = key := by
  rcases h with ⟨z, hz, hzu, hk, rfl⟩ | ⟨z, E1, q, hno, hE1, hz, hzu, h1, hl, rfl⟩
  · exact ⟨{ z with users := z.users + 1 }, by simp [(List.getElem?_eq_some_iff.1 hz).1], by dsimp only; omega, hk⟩
  · exact ⟨⟨q, key, 1⟩, by simp [(List.getElem?_eq_some_iff.1 hz).1], by show (0 : Int) < 1; omega, rfl⟩
/-- the numbers and the texts that were interned -/
def Both (E : List PE) (I : List Nat) (T : List ByteArray) : Prop := I.length = T.length ∧ ∀ (q id : Nat) (t : ByteArray), I[q]? = some id → T[q]? = some t → ∃ x, E[id]? = some x ∧ 0 < x.users ∧ x.key = t.data.toList
theorem Both.snoc {E E' : List PE} {I : List Nat} {T : List ByteArray} (h : Both E I T) {t : ByteArray} {id : Nat} (tk : Takes E E' t.data.toList id) : Both E' (I ++ [id]) (T ++ [t]) := by
  refine ⟨by simp [h.1], fun q j u hq hu => ?_⟩
  rw [List.getElem?_append] at hq hu
  have hl := h.1
  split at hq
  · next h1 =>
    rw [if_pos (by omega)] at hu
    obtain ⟨x, hx, hxu, hk⟩ := h.2 q j u hq hu
    obtain ⟨y, hy, hyu, hyk⟩ := takes_keep tk hx hxu
    exact ⟨y, hy, hyu, by rw [hyk, hk]⟩
  · next h1 =>
    rw [if_neg (by omega)] at hu
    rcases e : q - I.length with _ | k
    · rw [e] at hq
      rw [show q - T.length = 0 by omega] at hu
      simp at hq hu
      subst hq hu
      exact takes_has tk
    · rw [e] at hq
      simp at hq
theorem bytes_eq {s t : ByteArray} (h : s.data.toList = t.data.toList) : s = t := by
  obtain ⟨⟨s⟩⟩ := s
  obtain ⟨⟨t⟩⟩ := t
  simp at h
  subst h
  rfl
theorem Both.same {E : List PE} {I : List Nat} {T : List ByteArray} {s : Ar} {D : KD} {M : Int} (h : Both E I T) (v : PInv E s D M) {q r i k : Nat} {t u : ByteArray} (hi : I[q]? = some i) (hk : I[r]? = some k) (ht : T[q]? = some t) (hu : T[r]? = some u) : i = k ↔ t = u := by
  obtain ⟨x, hx, hxu, hxk⟩ := h.2 q i t hi ht
  obtain ⟨y, hy, hyu, hyk⟩ := h.2 r k u hk hu
  constructor
  · rintro rfl
    rw [hx] at hy; injection hy with hy; subst hy
    exact bytes_eq (by rw [← hxk, ← hyk])
  · rintro rfl
    exact v.un i k x y hx hy hxu hyu (by rw [hxk, hyk])
/-- a slice of integers, or of texts, of the call's own is none of a pool's blocks -/
theorem Own.poS {w : World} {base sz n c : Nat} {A : Option Addr} {xs : List Value} (h : Own w base 9 sz A n c xs) {B b : Nat} (hb : Go.Proofs.Ytidobhflijdccaa.inB A b) : ¬ PoS B w b := by
  obtain ⟨cs, h4⟩ := h.blk hb
  exact PoS.not h4 (by decide) (by decide) (by decide) (by decide) (by decide)
def ex60 : List (Int × Int) := [(40, 60)]
namespace poolBack
set_option maxRecDepth 100000 in
set_option maxHeartbeats 3000000 in
theorem main (w : World) (A1 : Option Addr) (n1 c1 : Nat) (A2 : Option Addr) (n2 c2 : Nat) (S : List ByteArray) (hs : Rd w w.heap.size A2 1 n2 (S.map .string)) (hz : ∀ s ∈ S, s.size ≤ maxLen) (hn2 : n2 ≤ 17592186043904) :
    Calls Try.prog 8 #[.slice A1 n1 c1, .slice A2 n2 c2] w fun e w' => e = .returned (.bool true) ∧ Keeps (fun _ => False) w w' := by
  have HS := hide hs
  have HZ := hide hz
  have k1 := (Keeps.refl (fun _ => False) w).alloc (.cells #[.int .i64 40, .int .i64 60] 37)
  have r1 := (show Blk (w.alloc (.cells #[.int .i64 40, .int .i64 60] 37)) w.heap.size 37 (prs ex60).toArray from Blk.new _ _ _).rd (n := 1) (sz := 2) rfl
  have HN := hide (anew_ok ex60 rfl (some ⟨w.heap.size, 0, none⟩) 1 1 _ _ r1 (Nat.le_refl _))
  have K1 := hide k1
  clear k1 r1 hs hz
  go_enter Try.func8, Try.ntmps8
  go_wp2_with fail
  trace "NEW"
  refine HN.out.mono ?_
  rintro e w1 ⟨a, CA, c, rfl, h1, k1⟩
  obtain ⟨B, hBe⟩ : ∃ B, B = (w.alloc (.cells #[.int .i64 40, .int .i64 60] 37)).heap.size := ⟨_, rfl⟩
  rw [← hBe] at h1
  have hwB : w.heap.size ≤ B := by rw [hBe]; exact K1.out.size
  have hB1 : B ≤ w1.heap.size := by rw [hBe]; exact k1.size
  have H1 := hide h1
  have K2 := hide (K1.out.trans k1)
  clear h1 k1 K1 hBe HN
  go_wp2_with fail
  trace "PNEW"
  refine (pnew_ok w1 a 60 (by omega) (by omega)).mono ?_
  rintro e w2 ⟨p, g, mb, rfl, h2, k2⟩
  have HO2 := hide (One.new (h2.base hB1) (H1.out.quiet k2) rfl (Nat.le_trans hB1 k2.size))
  have K3 := hide (K2.out.trans k2)
  have hww : w.heap.size ≤ w2.heap.size := K3.out.size
  clear h2 k2 K2 H1
  go_upto_region 8 with fail
  trace "LOOP"
  go_loopw [9, 10, 11, 12, 13, 14] (fun iv tv kv _ _ _ wr => ∃ (j : Nat) (I : List Nat) (T : List ByteArray) (D0 : Option Addr) (m0 : Nat) (D1 : Option Addr) (m1 : Nat) (E : List PE) (EA : Option Addr) (cap : Nat) (D : KD) (s : Ar) (L : Nat → List Nat), j ≤ n2 ∧ j ≤ 50 ∧ iv = .slice D0 j m0 ∧ tv = .slice D1 j m1 ∧ kv = .int .i64 j ∧ Hid (I.length = j ∧ cntU E ≤ j ∧ Both E I T ∧ ∀ t ∈ T, t.size ≤ 31) ∧ Hid (Own wr w2.heap.size 3 1 D0 j m0 (I.map fun i : Nat => .int .i64 i)) ∧ Hid (Own wr w2.heap.size 9 1 D1 j m1 (T.map .string)) ∧ Hid (One wr B p a mb 60 40 60 E EA cap D s L j j) ∧ Hid (Keeps (fun _ => False) w wr) ∧ w2.heap.size ≤ wr.heap.size) (fun _ _ kv _ _ _ _ => 50 - (intOf kv).toNat)
  case atStart => exact ⟨0, [], [], none, 0, none, 0, _, _, _, _, _, _, by omega, by omega, rfl, rfl, rfl, hide ⟨rfl, by decide, ⟨rfl, by simp⟩, by simp⟩, hide (Own.nil _ _ _ _), hide (Own.nil _ _ _ _), HO2, K3, Nat.le_refl _⟩
  case round =>
    obtain ⟨j, I, T, D0, m0, D1, m1, E, EA, cap, D, s, L, hj2, hj50, rfl, rfl, rfl, HI, HO, HT, HOn, HK, hwr⟩ := hrel
    clear HO2 K3
    by_cases hlt : j < n2 ∧ j < 50
    · obtain ⟨h2, h50⟩ := hlt
      have e1 : decide ((j : Int) < (n2 : Int)) = true := by simpa using h2
      have e2 : decide ((j : Int) < 50) = true := by simp; omega
      obtain ⟨b2, off2, rfl, hb2, hc2⟩ := HS.out.2 (by omega)
      have hSl : S.length = n2 := by have := HS.out.1; simpa using this
      obtain ⟨k, hk⟩ : ∃ k, S[j]? = some k := ⟨S[j]'(by omega), by simp⟩
      have ck := HK.out.cell_some (hc2 j (.string k) (by simp [hk])) (fun h => h)
      have hkz := HZ.out k (List.mem_of_getElem? hk)
      have hjI : (j : Int) < (n2 : Int) := by omega
      have hj0 : (0 : Int) ≤ (j : Int) := by omega
      have hks : (k.size : Int) ≤ 9223372036854775807 := by simp only [maxLen] at hkz; omega
      clear hc2 hk hkz
      go_upto_region 10 with fail
      trace "R10"
      go_region
      trace "R10b"
      all_goals go_wp2_with fail
      next =>
        generalize hT : (({ data := #[120] } : ByteArray) ++ k.extract 0 30) = t
        have htz : (({ data := #[120] } : ByteArray) ++ k.extract 0 30).size = 1 + (k.extract 0 30).size := by rw [ByteArray.size_append]; rfl
        rw [hT] at htz
        have htk : (k.extract 0 30).size ≤ 30 := by first | omega | (rw [ByteArray.size_extract]; omega)
        have ht1 : 1 ≤ t.size := by omega
        have ht2 : t.size ≤ 31 := by omega
        have kd := (Keeps.refl (fun _ => False) wr).drew
        refine (intern1 _ B p a mb 60 40 60 E EA cap D s L j j t (HOn.out.quiet kd) (by omega) (by omega) ht1 (by omega) (by omega) (by have := HI.out.2.1; omega) (by omega)).mono ?_
        rintro e w7 ⟨E7, EA7, cap7, D7, s7, L7, id, rfl, o7, tk, hcu, k7⟩
        have HO7 := hide o7
        have OI7 := hide ((HO.out.kept kd (fun _ _ h => h)).kept k7 (fun b hb => (HO.out.kept kd (fun _ _ h => h)).po hb))
        have OT7 := hide ((HT.out.kept kd (fun _ _ h => h)).kept k7 (fun b hb => (HT.out.kept kd (fun _ _ h => h)).poS hb))
        have K7 := hide (PoS.to0 (HK.out.trans kd) k7 (by omega))
        have HI7 : Hid ((I ++ [id]).length = j + 1 ∧ cntU E7 ≤ j + 1 ∧ Both E7 (I ++ [id]) (T ++ [t]) ∧ ∀ u ∈ T ++ [t], u.size ≤ 31) := hide ⟨by simp [HI.out.1], by have := HI.out.2.1; omega, HI.out.2.2.1.snoc tk, fun u hu => by
          rcases List.mem_append.1 hu with h | h
          · exact HI.out.2.2.2 u h
          · rw [List.mem_singleton.1 h]; exact ht2⟩
        have hw7 := Nat.le_trans (Nat.le_trans hwr kd.size) k7.size
        clear o7 tk hcu k7 HOn HO HT HK HI hT htz htk kd ck
        go_upto_region 14 with fail
        trace "R14"
        go_upto_region 9 with (first | (at_builtin; refine wpList_app _ elemInt rfl (.tmp 70) (.tmp 72) rfl w2.heap.size _ rfl (OI7.out.kept ((Keeps.refl (fun _ => False) w7).alloc _) (fun _ _ h => h)) _ (m := 1) [.int .i64 id] rfl (by exact Blk.rd (xs := [.int .i64 id]) (Blk.new_at _ _ _ _ (by simp)) rfl) (by simp [Value.oneCell']) (by simp only [maxLen]; omega) (by omega) (by simp; omega) ?_; intro A8 c8 w8 o8 k8 hA8; have hkA := (Keeps.refl (fun _ => False) w7).alloc (.cells #[.int .i64 id] 3); have OA := OI7.out.kept hkA (fun _ _ h => h); have HO8 := hide ((HO7.out.quiet hkA).own OA k8); have OT8 := hide ((OT7.out.kept hkA (fun _ _ h => h)).kept k8 (fun b hb h => OA.ne (OT7.out.kept hkA (fun _ _ h => h)) (by decide) h hb)); have K8 := hide ((K7.out.trans hkA).step k8 (fun b hb h => by have := OA.inB h; omega)); have OI8 := hide o8; have hw8 := Nat.le_trans hw7 (Nat.le_trans hkA.size k8.size); clear o8 k8 hA8 hkA OA HO7 OT7 OI7 K7) | (at_builtin; refine wpList_app _ elemStr rfl (.tmp 74) (.tmp 76) rfl w2.heap.size _ rfl (OT8.out.kept ((Keeps.refl (fun _ => False) w8).alloc _) (fun _ _ h => h)) _ (m := 1) [.string t] rfl (by exact Blk.rd (xs := [.string t]) (Blk.new_at _ _ _ _ (by simp)) rfl) (by simp [Value.oneCell']) (by simp only [maxLen]; omega) (by omega) (by simp; omega) ?_; intro A9 c9 w9 o9 k9 hA9; have hkA := (Keeps.refl (fun _ => False) w8).alloc (.cells #[.string t] 9); have OA := OT8.out.kept hkA (fun _ _ h => h); have HO9 := hide ((HO8.out.quiet hkA).ownS OA k9); have OI9 := hide ((OI8.out.kept hkA (fun _ _ h => h)).kept k9 (fun b hb h => OA.ne (OI8.out.kept hkA (fun _ _ h => h)) (by decide) h hb)); have K9 := hide ((K8.out.trans hkA).step k9 (fun b hb h => by have := OA.inB h; omega)); have OT9 := hide o9; have hw9 := Nat.le_trans hw8 (Nat.le_trans hkA.size k9.size); clear o9 k9 hA9 hkA OA HO8 OI8 K8 OT8))
        trace "R14b"
        go_wp2_with fail
        go_roundw
        case rel =>
          refine ⟨j + 1, I ++ [id], T ++ [t], A8, c8, A9, c9, E7, EA7, cap7, D7, s7, L7, by omega, by omega, rfl, rfl, by go_num, HI7, ?_, ?_, HO9, K9, hw9⟩
          · rw [List.map_append]
            exact OI9
          · rw [List.map_append]
            exact OT9
        case measure => simp [intOf]; omega
      next =>
        generalize hT : (({ data := #[120] } : ByteArray) ++ k) = t
        have htz : (({ data := #[120] } : ByteArray) ++ k).size = 1 + (k).size := by rw [ByteArray.size_append]; rfl
        rw [hT] at htz
        have htk : (k).size ≤ 30 := by first | omega | (rw [ByteArray.size_extract]; omega)
        have ht1 : 1 ≤ t.size := by omega
        have ht2 : t.size ≤ 31 := by omega
        have kd := (Keeps.refl (fun _ => False) wr).drew
        refine (intern1 _ B p a mb 60 40 60 E EA cap D s L j j t (HOn.out.quiet kd) (by omega) (by omega) ht1 (by omega) (by omega) (by have := HI.out.2.1; omega) (by omega)).mono ?_
        rintro e w7 ⟨E7, EA7, cap7, D7, s7, L7, id, rfl, o7, tk, hcu, k7⟩
        have HO7 := hide o7
        have OI7 := hide ((HO.out.kept kd (fun _ _ h => h)).kept k7 (fun b hb => (HO.out.kept kd (fun _ _ h => h)).po hb))
        have OT7 := hide ((HT.out.kept kd (fun _ _ h => h)).kept k7 (fun b hb => (HT.out.kept kd (fun _ _ h => h)).poS hb))
        have K7 := hide (PoS.to0 (HK.out.trans kd) k7 (by omega))
        have HI7 : Hid ((I ++ [id]).length = j + 1 ∧ cntU E7 ≤ j + 1 ∧ Both E7 (I ++ [id]) (T ++ [t]) ∧ ∀ u ∈ T ++ [t], u.size ≤ 31) := hide ⟨by simp [HI.out.1], by have := HI.out.2.1; omega, HI.out.2.2.1.snoc tk, fun u hu => by
          rcases List.mem_append.1 hu with h | h
          · exact HI.out.2.2.2 u h
          · rw [List.mem_singleton.1 h]; exact ht2⟩
        have hw7 := Nat.le_trans (Nat.le_trans hwr kd.size) k7.size
        clear o7 tk hcu k7 HOn HO HT HK HI hT htz htk kd ck
        go_upto_region 14 with fail
        trace "R14"
        go_upto_region 9 with (first | (at_builtin; refine wpList_app _ elemInt rfl (.tmp 70) (.tmp 72) rfl w2.heap.size _ rfl (OI7.out.kept ((Keeps.refl (fun _ => False) w7).alloc _) (fun _ _ h => h)) _ (m := 1) [.int .i64 id] rfl (by exact Blk.rd (xs := [.int .i64 id]) (Blk.new_at _ _ _ _ (by simp)) rfl) (by simp [Value.oneCell']) (by simp only [maxLen]; omega) (by omega) (by simp; omega) ?_; intro A8 c8 w8 o8 k8 hA8; have hkA := (Keeps.refl (fun _ => False) w7).alloc (.cells #[.int .i64 id] 3); have OA := OI7.out.kept hkA (fun _ _ h => h); have HO8 := hide ((HO7.out.quiet hkA).own OA k8); have OT8 := hide ((OT7.out.kept hkA (fun _ _ h => h)).kept k8 (fun b hb h => OA.ne (OT7.out.kept hkA (fun _ _ h => h)) (by decide) h hb)); have K8 := hide ((K7.out.trans hkA).step k8 (fun b hb h => by have := OA.inB h; omega)); have OI8 := hide o8; have hw8 := Nat.le_trans hw7 (Nat.le_trans hkA.size k8.size); clear o8 k8 hA8 hkA OA HO7 OT7 OI7 K7) | (at_builtin; refine wpList_app _ elemStr rfl (.tmp 74) (.tmp 76) rfl w2.heap.size _ rfl (OT8.out.kept ((Keeps.refl (fun _ => False) w8).alloc _) (fun _ _ h => h)) _ (m := 1) [.string t] rfl (by exact Blk.rd (xs := [.string t]) (Blk.new_at _ _ _ _ (by simp)) rfl) (by simp [Value.oneCell']) (by simp only [maxLen]; omega) (by omega) (by simp; omega) ?_; intro A9 c9 w9 o9 k9 hA9; have hkA := (Keeps.refl (fun _ => False) w8).alloc (.cells #[.string t] 9); have OA := OT8.out.kept hkA (fun _ _ h => h); have HO9 := hide ((HO8.out.quiet hkA).ownS OA k9); have OI9 := hide ((OI8.out.kept hkA (fun _ _ h => h)).kept k9 (fun b hb h => OA.ne (OI8.out.kept hkA (fun _ _ h => h)) (by decide) h hb)); have K9 := hide ((K8.out.trans hkA).step k9 (fun b hb h => by have := OA.inB h; omega)); have OT9 := hide o9; have hw9 := Nat.le_trans hw8 (Nat.le_trans hkA.size k9.size); clear o9 k9 hA9 hkA OA HO8 OI8 K8 OT8))
        trace "R14b"
        go_wp2_with fail
        go_roundw
        case rel =>
          refine ⟨j + 1, I ++ [id], T ++ [t], A8, c8, A9, c9, E7, EA7, cap7, D7, s7, L7, by omega, by omega, rfl, rfl, by go_num, HI7, ?_, ?_, HO9, K9, hw9⟩
          · rw [List.map_append]
            exact OI9
          · rw [List.map_append]
            exact OT9
        case measure => simp [intOf]; omega
    · clear HZ HS
      have hNo : ¬ (j < n2 ∧ j < 50) := hlt
      obtain ⟨wo, rfl⟩ : ∃ wo : World, wo = wr := ⟨_, rfl⟩
      by_cases hjn : j < n2
      all_goals
        go_upto_region 16 with fail
        trace "LOOP2"
        go_loopw [15, 16, 17, 18, 80] (fun _ _ _ _ iv w2 => ∃ q : Nat, q ≤ j ∧ iv = .int .i64 q ∧ Hid (Keeps (fun _ => False) wo w2)) (fun _ _ _ _ iv _ => j - (intOf iv).toNat)
        case atStart => exact ⟨0, by omega, rfl, hide (Keeps.refl _ _)⟩
        case round =>
          obtain ⟨q, hq, rfl, K2⟩ := hrel
          obtain ⟨wq, rfl⟩ : ∃ wq : World, wq = wr := ⟨_, rfl⟩
          by_cases hqj : q < j
          · obtain ⟨id, hid⟩ : ∃ id, I[q]? = some id := ⟨I[q]'(by rw [HI.out.1]; exact hqj), by simp⟩
            obtain ⟨t, ht⟩ : ∃ t, T[q]? = some t := ⟨T[q]'(by rw [← HI.out.2.2.1.1, HI.out.1]; exact hqj), by simp⟩
            obtain ⟨x, hx, hu, hkx⟩ := HI.out.2.2.1.2 q id t hid ht
            obtain ⟨C, rfl, _⟩ := HO.out.some_ (by omega)
            obtain ⟨G, rfl, _⟩ := HT.out.some_ (by omega)
            have hq' : q < j * 1 := by omega
            have c0 := (HO.out.kept K2.out (fun _ _ h => h)).cell q hq'
            have d0 := (HT.out.kept K2.out (fun _ _ h => h)).cell q hq'
            rw [List.getElem?_map, hid] at c0
            rw [List.getElem?_map, ht] at d0
            dsimp only [Option.map_some] at c0 d0
            have HQ : Hid (q + 1 ≤ j) := hqj
            have hqI : (q : Int) < (j : Int) := by omega
            have hq0 : (0 : Int) ≤ (q : Int) := by omega
            have HOq := hide (HOn.out.quiet K2.out)
            have HText : Hid (Calls Try.prog 40 #[.pointer (some ⟨p, 0, none⟩), .int .i64 id] wq fun e w' => e = .returned (.tuple #[.string t, .int .i64 0]) ∧ Keeps (fun _ => False) wq w') := hide (by
              have := pText_ok wq B p a mb cap 60 E EA D s j j L HOq.out.po HOq.out.ar HOq.out.iv HOq.out.pv id x hx hu (by have := HOq.out.pv.len; omega) HOq.out.hB
              rw [hkx, show (⟨t.data.toList.toArray⟩ : ByteArray) = t from bytes_eq (by simp)] at this
              exact this)
            have HId := hide hid
            have HTt := hide ht
            clear hx hu hkx hid ht
            go_wp2_with fail
            trace "TEXT"
            refine HText.out.mono ?_
            rintro e w3 ⟨rfl, k3⟩
            have K3 := hide (K2.out.trans k3)
            have d1 := k3.cell_some d0 (fun h => h)
            clear k3 c0 d0 HText HOq
            go_upto_region 22 with fail
            trace "LOOP3"
            go_loopw [18, 104] (fun _ iv w4 => ∃ r : Nat, r ≤ j ∧ iv = .int .i64 r ∧ Hid (Keeps (fun _ => False) wo w4)) (fun _ iv _ => j - (intOf iv).toNat)
            case atStart => exact ⟨0, by omega, rfl, K3⟩
            case round =>
              obtain ⟨r, hr, rfl, K4⟩ := hrel
              by_cases hrj : r < j
              · obtain ⟨id2, hid2⟩ : ∃ id, I[r]? = some id := ⟨I[r]'(by rw [HI.out.1]; exact hrj), by simp⟩
                obtain ⟨t2, ht2⟩ : ∃ t, T[r]? = some t := ⟨T[r]'(by rw [← HI.out.2.2.1.1, HI.out.1]; exact hrj), by simp⟩
                have hiff := HI.out.2.2.1.same HOn.out.pv HId.out hid2 HTt.out ht2
                have hr' : r < j * 1 := by omega
                have c0 := (HO.out.kept K4.out (fun _ _ h => h)).cell q hq'
                have d0 := (HT.out.kept K4.out (fun _ _ h => h)).cell q hq'
                have c2 := (HO.out.kept K4.out (fun _ _ h => h)).cell r hr'
                have d2 := (HT.out.kept K4.out (fun _ _ h => h)).cell r hr'
                rw [List.getElem?_map, HId.out] at c0
                rw [List.getElem?_map, HTt.out] at d0
                rw [List.getElem?_map, hid2] at c2
                rw [List.getElem?_map, ht2] at d2
                dsimp only [Option.map_some] at c0 d0 c2 d2
                have HR : Hid (r + 1 ≤ j) := hrj
                have hrI : (r : Int) < (j : Int) := by omega
                have hr0 : (0 : Int) ≤ (r : Int) := by omega
                have hbb : (((id : Int) == (id2 : Int)) == (t.toList == t2.toList)) = true := by
                  by_cases e : id = id2
                  · have e2 := hiff.1 e
                    subst e e2
                    simp
                  · have e2 : ¬ t.toList = t2.toList := fun h => e (hiff.2 (bytes_eq (by rw [← ByteArray.toList_eq, ← ByteArray.toList_eq]; exact h)))
                    have e3 : ¬ (id : Int) = (id2 : Int) := by omega
                    rw [beq_eq_false_iff_ne.2 e3, beq_eq_false_iff_ne.2 e2]
                    rfl
                clear hid2 ht2 hiff d1
                go_upto_region 24 with fail
                trace "R24"
                go_quiet (fail)
                trace "R24b"
                go_wp2_with fail
                go_roundw
                case rel => exact ⟨r + 1, HR.out, by go_num, hide (K4.out.drewN _)⟩
                case measure => have := HR.out; simp [intOf]; omega
              · obtain rfl : r = j := by omega
                clear d1
                go_wp2_with fail
                go_roundw
                case rel => exact ⟨q + 1, HQ.out, by go_num, K4⟩
                case measure => have := HQ.out; simp [intOf]; omega
          · obtain rfl : q = j := by omega
            have K3 := hide (HK.out.trans K2.out)
            clear HI HO HT HOn HK K2
            go_wp2_with fail
            trace "AWAKE"
            refine (awake09 _).mono ?_
            rintro e w12 ⟨rfl, k12⟩
            have K12 := hide (K3.out.trans k12)
            clear k12
            go_wp2_with fail
            go_ret
            exact ⟨rfl, K12.out⟩
theorem walk (w : World) (A1 : Option Addr) (n1 c1 : Nat) (z1 : List Int) (r1 : Rd w w.heap.size A1 1 n1 (z1.map (.int .i64))) (b1 : ∀ z ∈ z1, -9223372036854775808 ≤ z ∧ z < 9223372036854775808) (s1 : n1 * 8 ≤ 140737488351232) (l1 : n1 ≤ c1)
    (A2 : Option Addr) (n2 c2 : Nat) (z2 : List ByteArray) (r2 : Rd w w.heap.size A2 1 n2 (z2.map .string)) (b2 : ∀ s ∈ z2, s.size ≤ maxLen) (s2 : n2 * 16 ≤ 140737488351232) (l2 : n2 ≤ c2) :
    Calls Try.prog 8 #[.slice A1 n1 c1, .slice A2 n2 c2] w fun e w' => e = .returned (.bool true) ∧ Below w.heap.size w w' :=
  (main w A1 n1 c1 A2 n2 c2 z2 r2 b2 (by omega)).mono fun e w' ⟨he, hk⟩ => ⟨he, hk.done⟩
end poolBack
end Go.Proofs.Ytidobhflijdccaa
