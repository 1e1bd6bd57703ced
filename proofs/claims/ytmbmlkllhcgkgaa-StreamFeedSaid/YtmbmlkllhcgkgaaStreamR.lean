/-
  The reference's Feed: a piece of bytes, by its contract.
-/
import Derived.Test.YtmbmlkllhcgkgaaStreamF
import Derived.Test.YtmbmlkllhcgkgaaVarintR
import Derived.Test.YtmbmlkllhcgkgaaMem2
set_option linter.unusedVariables false
set_option linter.unusedSimpArgs false
namespace Go.Proofs.Ytmbmlkllhcgkgaa
open Go.RowKit
open Vp Stp

/-- between two rounds -/
def FRel (w : World) (s0 : St) (l : List UInt8) (k : Nat) (out : Value) (wr : World) : Prop :=
  ∃ (bf : List UInt8) (sk : Int) (br : Bool) (chs : List Ch) (A : Option Addr) (n c : Nat) (C : Option Addr) (m mc : Nat) (cells : List Value), out = .slice C m mc ∧
      feedL s0 (l.take k) = (⟨bf, sk, br⟩, chs) ∧ Blk wr w.heap.size 28 #[.slice A n c, .int .u64 sk, .bool br] ∧ Blk wr (w.heap.size + 1) 28 #[.slice none 0 0, .int .u64 0, .bool false] ∧
      Own wr (w.heap.size + 2) 5 1 A n c (bf.map by8) ∧ Own wr (w.heap.size + 2) 42 2 C m mc cells ∧ ChCells wr (fun b => w.heap.size + 2 ≤ b ∧ ¬ inB A b ∧ ¬ inB C b) cells chs ∧ Keeps (fun _ => False) w wr

set_option maxRecDepth 100000 in
set_option maxHeartbeats 1000000 in
theorem rFeed_any (s : St) (hg : Stp.Good s) (hsb : s.buf.length ≤ 100000) (A : Option Addr) (n c B : Nat) (w : World) (hr : Rd w B A 1 n (s.buf.map by8)) (hB : B ≤ w.heap.size) (l : List UInt8) (A2 : Option Addr) (n2 c2 B2 : Nat)
    (hr2 : Rd w B2 A2 1 n2 (l.map by8)) (hB2 : B2 ≤ w.heap.size) (hn2 : n2 ≤ 140737488351232) (hch : (feedL s l).2.length ≤ 1000000) :
    Calls Try.prog 13 #[.agg #[.slice A n c, .int .u64 s.skip, .bool s.broken], .slice A2 n2 c2] w (FedL w (feedL s l)) := by
  have hln : s.buf.length = n := by simpa using hr.1
  have hll : l.length = n2 := by simpa using hr2.1
  obtain ⟨buf, skip, broken⟩ := s
  have hgood := hg
  obtain ⟨g0, g1, g2⟩ := hg
  simp only at g0 g1 g2 hsb hln hr ⊢
  have HR := hide hr
  have HR2 := hide hr2
  have HL := hide hln
  have HLL := hide hll
  have hn : n ≤ 100000 := by omega
  have HG := hide hgood
  have HCH := hide hch
  clear hr hr2 hln hll g2 hgood hch
  go_enter Try.func13, Try.ntmps13
  go_wp2_with (first
    | (at_builtin
       refine wpList_app _ elem8 rfl _ _ rfl w.heap.size _ rfl (Own.new0 _ _ 5 1 _ (by simp) (by omega)) _ (m := n) _ rfl (HR.out.kept ((((Keeps.refl (fun _ => False) w).alloc _).alloc _).alloc _) (fun _ _ h => h)) (by8_one _) (by simp [maxLen]; omega) (by omega) (by first | omega | (simp; done) | (simp; omega)) ?_
       intro A5 c5 w5 o5 k5 hA5
       have B1 : Blk w5 w.heap.size 28 #[.slice A n c, .int .u64 skip, .bool broken] := ((((Blk.new w _ _).alloc _).alloc _)).kept k5 (fun h => by have := (inB_some _ _ _).1 h; omega)
       have B2 : Blk w5 (w.heap.size + 1) 28 #[.slice none 0 0, .int .u64 0, .bool false] := ((Blk.new_at _ _ _ _ (by simp)).alloc _).kept k5 (fun h => by have := (inB_some _ _ _).1 h; omega)
       obtain ⟨⟨c10, c11, c12⟩, ⟨f10, f11, f12⟩, _⟩ := B1.three
       obtain ⟨⟨c20, c21, c22⟩, ⟨f20, f21, f22⟩, hsz2⟩ := B2.three
       rw [Nat.zero_add, List.nil_append] at o5
       have O5 := hide o5
       have K5 := hide k5
       have HA5 := hide hA5
       have BB1 := hide B1
       have BB2 := hide B2
       clear o5 k5 hA5 B1 B2))
  obtain ⟨W, hW⟩ : ∃ W, W = w5.setCell ⟨w.heap.size, 0, none⟩ (.slice A5 n c5) := ⟨_, rfl⟩
  rw [← hW]
  have hA5 : ∀ k, inB A5 k → w.heap.size + 2 ≤ k := fun k h => by
    rcases HA5.out k h with h | h
    · have := (inB_some _ _ _).1 h; omega
    · simp at h; omega
  have KW : Keeps (· = w.heap.size) w5 W := by rw [hW]; exact Keeps.setCell (S := (· = w.heap.size)) (p := ⟨w.heap.size, 0, none⟩) (Keeps.refl _ _) (.inl rfl) _
  have B1 : Blk W w.heap.size 28 #[.slice A5 n c5, .int .u64 skip, .bool broken] := by rw [hW]; exact BB1.out.set 0 _
  have B2 : Blk W (w.heap.size + 1) 28 #[.slice none 0 0, .int .u64 0, .bool false] := BB2.out.kept KW (by omega)
  have K6 : Keeps (fun _ => False) w W := ((((((Keeps.refl _ w).alloc _).alloc _).alloc _).step K5.out (fun k hk h => by have := (inB_some _ _ _).1 h; omega))).step KW (fun k hk h => by omega)
  have O6 : Own W (w.heap.size + 2) 5 1 A5 n c5 (buf.map by8) := by
    have := O5.out.kept KW (fun k h e => by have := hA5 k h; omega)
    refine ⟨this.1, ?_⟩
    rcases this.2 with h | ⟨g, cap, cur, hv, hb, r⟩
    · exact .inl h
    · exact .inr ⟨g, cap, cur, hv, by injection hv with h1; exact hA5 g ⟨_, h1, rfl⟩, r⟩
  have hWs := B2.lt
  have hch : ∀ k, (feedL ⟨buf, skip, broken⟩ (l.take k)).2.length ≤ 1000000 := fun k => by
    have h1 := HCH.out
    have h2 := feedL_append ⟨buf, skip, broken⟩ (l.take k) (l.drop k)
    rw [List.take_append_drop] at h2
    rw [h2] at h1
    simp at h1
    omega
  have HC := hide hch
  have HK6 := hide K6
  have HO6 := hide O6
  have HB1 := hide B1
  have HB2 := hide B2
  clear hA5 KW B1 B2 K6 O6 hch HCH HA5 O5 K5 BB1 BB2 c10 c11 c12 f10 f11 f12 c20 c21 c22 f20 f21 f22 hsz2 hW
  go_loopw [6, 19] (fun out i wr => ∃ k : Nat, k ≤ n2 ∧ i = .int .i64 k ∧ FRel w ⟨buf, skip, broken⟩ l k out wr) (fun _ i _ => n2 - (intOf i).toNat)
  case atStart =>
    exact ⟨0, by omega, rfl, buf, skip, broken, [], A5, n, c5, none, 0, 0, [], rfl, rfl, HB1.out, HB2.out, HO6.out, Own.nil _ _ _ _, trivial, HK6.out⟩
  case round =>
    obtain ⟨k, hk, rfl, bf, sk, br, chs, A, n, c, C, m, mc, cells, rfl, hF, B1, B2, o1, oc, ch, kp⟩ := hrel
    have hgd : Stp.Good ⟨bf, sk, br⟩ := by
      have := good_feedL ⟨buf, skip, broken⟩ (l.take k) HG.out
      rwa [hF] at this
    obtain ⟨s0, s1, s2⟩ := hgd
    simp only at s0 s1 s2
    have hcn := HC.out k
    rw [hF] at hcn
    have hcl := ch.len
    have hm : m = chs.length := by have := oc.len; omega
    have hm1 : m ≤ 1000000 := by rw [hm]; exact hcn
    have hbn : bf.length = n := by simpa using o1.len
    obtain ⟨⟨c10, c11, c12⟩, ⟨f10, f11, f12⟩, _⟩ := B1.three
    obtain ⟨⟨c20, c21, c22⟩, ⟨f20, f21, f22⟩, hsz2⟩ := B2.three
    have RP := hide (HR2.out.kept kp (fun _ _ h => h))
    have HF := hide hF
    have HGD := hide s2
    have HB1 := hide B1
    have HB2 := hide B2
    have HO1 := hide o1
    have HOC := hide oc
    have HCHS := hide ch
    have HM := hide hm
    have HKP := hide kp
    have HBN := hide hbn
    clear s2 hF B1 B2 o1 oc ch hcn hcl hm kp hbn
    by_cases hlt : k < n2
    · obtain ⟨b, off, rfl, _, hc⟩ := RP.out.2 (by omega)
      have hx := hc k (by8 (l.getD k 0)) (by have := HLL.out; simp [List.getD, show k < l.length by omega])
      have HSN : Hid (feedL ⟨buf, skip, broken⟩ (l.take (k + 1)) = ((feed1 ⟨bf, sk, br⟩ (l.getD k 0)).1, chs ++ (feed1 ⟨bf, sk, br⟩ (l.getD k 0)).2)) := by
        have h1 := HLL.out
        have h2 : l.take (k + 1) = l.take k ++ [l.getD k 0] := by rw [List.take_succ_eq_append_getElem (by omega)]; simp [List.getD, show k < l.length by omega]
        show feedL _ _ = _
        rw [h2, feedL_snoc, HF.out]
      have hmm : Hid (∀ st ch2, feed1 ⟨bf, sk, br⟩ (l.getD k 0) = (st, ch2) → m + ch2.length ≤ 1000000) := fun st ch2 he => by
        have h1 := HC.out (k + 1)
        rw [HSN.out, he] at h1
        simp at h1
        have := HM.out
        omega
      generalize l.getD k 0 = x at *
      simp only [by8] at hx
      clear hc
      cases br
      case true =>
        have HF1 : Hid (((feed1 ⟨bf, sk, true⟩ x).1, chs ++ (feed1 ⟨bf, sk, true⟩ x).2) = (⟨bf, sk, true⟩, chs)) := by simp [Hid, feed1]
        go_wp2_with fail
        go_roundw
        case rel => exact ⟨k + 1, by omega, by go_num, bf, sk, true, chs, A, n, c, C, m, mc, cells, rfl, HSN.out.trans HF1.out, HB1.out, HB2.out, HO1.out, HOC.out, HCHS.out, HKP.out⟩
        case measure => simp [intOf]; omega
      case false =>
        by_cases hsk : 0 < sk
        · have HF1 : Hid (((feed1 ⟨bf, sk, false⟩ x).1, chs ++ (feed1 ⟨bf, sk, false⟩ x).2) = (⟨bf, sk - 1, false⟩, chs)) := by simp [Hid, feed1, hsk]
          have KS : Keeps (· = w.heap.size) wr (wr.setCell ⟨w.heap.size, 1, none⟩ (.int .u64 (sk - 1))) := Keeps.setCell (S := (· = w.heap.size)) (p := ⟨w.heap.size, 1, none⟩) (Keeps.refl _ _) (.inl rfl) _
          have HKS := hide KS
          clear KS
          go_wp2_with fail
          have KS := HKS.out
          go_roundw
          case rel => exact ⟨k + 1, by omega, by go_num, bf, sk - 1, false, chs, A, n, c, C, m, mc, cells, rfl, HSN.out.trans HF1.out, HB1.out.set 1 _, HB2.out.kept KS (by omega), HO1.out.kept KS (fun b hb e => by have := HO1.out.inB hb; omega), HOC.out.kept KS (fun b hb e => by have := HOC.out.inB hb; omega), HCHS.out.kept KS (fun b hb _ e => by have := hb.1; omega), HKP.out.step KS (fun b hb h => by omega)⟩
          case measure => simp [intOf]; omega
        · obtain rfl : sk = 0 := by omega
          have hlt2 := inc_lt _ (HGD.out rfl)
          have hln := HBN.out
          have hn : n ≤ 4097 := by omega
          have he := parse_e (bf ++ [x])
          have hok := parse_ok (bf ++ [x])
          obtain ⟨pn, pu, pe, ho⟩ : ∃ a b e : Int, a = ((parse (bf ++ [x])).1 : Nat) ∧ b = ((parse (bf ++ [x])).2.1 : Nat) ∧ e = ((parse (bf ++ [x])).2.2 : Nat) := ⟨_, _, _, rfl, rfl, rfl⟩
          have hout : Varint.out (bf ++ [x]) = .tuple #[.int .u64 pn, .int .i64 pu, .int .i64 pe] := by unfold Varint.out; rw [ho.1, ho.2.1, ho.2.2]
          have HO := hide ho
          have HOUT := hide hout
          have HOK := hide hok
          clear ho hout hok hln hsk
          have he' : pe = 0 ∨ pe = 2 ∨ pe = 3 := by have := HO.out.2.2; omega
          clear he
          go_wp2_with (first
            | (at_builtin
               refine wpList_app _ elem8 rfl (.tmp 33) (.tmp 35) rfl (w.heap.size + 2) _ rfl (HO1.out.kept ((Keeps.refl (fun _ => False) wr).alloc _) (fun _ _ h => h)) _ [by8 x] rfl (by exact Blk.rd (xs := [by8 x]) (Blk.new_at _ _ _ _ (by simp)) rfl) (by8_one [x]) (by simp only [maxLen]; omega) (by omega) (by simp; omega) ?_
               intro A2 c2 w2 o2 k2 hA2
               have B1' := (HB1.out.alloc (.cells #[by8 x] 5)).kept k2 (fun h => by have := HO1.out.inB h; omega)
               have B2' := (HB2.out.alloc (.cells #[by8 x] 5)).kept k2 (fun h => by have := HO1.out.inB h; omega)
               obtain ⟨⟨c60, c61, c62⟩, ⟨f60, f61, f62⟩, _⟩ := B1'.three
               have OO := hide o2
               have KK := hide k2
               have HA2 := hide hA2
               have BB1 := hide B1'
               have BB2 := hide B2'
               clear o2 k2 hA2 B1' B2'))
          obtain ⟨W6, hW6⟩ : ∃ W, W = w2.setCell ⟨w.heap.size, 0, none⟩ (.slice A2 (n + 1) c2) := ⟨_, rfl⟩
          rw [← hW6]
          have KA := (Keeps.refl (fun _ => False) wr).alloc (.cells #[by8 x] 5)
          have KW : Keeps (· = w.heap.size) w2 W6 := by rw [hW6]; exact Keeps.setCell (S := (· = w.heap.size)) (p := ⟨w.heap.size, 0, none⟩) (Keeps.refl _ _) (.inl rfl) _
          have hA0 : ∀ k, inB A k → w.heap.size + 2 ≤ k ∧ k < wr.heap.size := fun k h => HO1.out.inB h
          have hA6 : ∀ k, inB A2 k → w.heap.size + 2 ≤ k ∧ (inB A k ∨ wr.heap.size ≤ k) := fun k h => by
            rcases HA2.out k h with h | h
            · exact ⟨(hA0 k h).1, .inl h⟩
            · simp at h; exact ⟨by omega, .inr (by omega)⟩
          have O3 : Own W6 (w.heap.size + 2) 5 1 A2 (n + 1) c2 ((bf ++ [x]).map by8) := by rw [List.map_append]; exact OO.out.kept KW (fun k h e => by have := hA6 k h; omega)
          have B1 : Blk W6 w.heap.size 28 #[.slice A2 (n + 1) c2, .int .u64 0, .bool false] := by rw [hW6]; exact BB1.out.set 0 _
          have B2 : Blk W6 (w.heap.size + 1) 28 #[.slice none 0 0, .int .u64 0, .bool false] := BB2.out.kept KW (by omega)
          have HOC6 := hide (((HOC.out.kept KA (fun _ _ h => h)).kept KK.out (fun b hb h => HO1.out.ne HOC.out (by decide) h hb)).kept KW (fun b hb e => by have := HOC.out.inB hb; omega))
          have hCB : ∀ b, inB C b → w.heap.size + 2 ≤ b ∧ b < wr.heap.size := fun b hb => HOC.out.inB hb
          have hCH6 : ChCells W6 (fun b => w.heap.size + 2 ≤ b ∧ ¬ inB A2 b ∧ ¬ inB C b) cells chs := by
            have h0 : ChCells wr (fun b => (w.heap.size + 2 ≤ b ∧ ¬ inB A b ∧ ¬ inB C b) ∧ b < wr.heap.size) cells chs := ChCells.weak (fun b hb hl => ⟨hb, hl⟩) HCHS.out
            have h1 := ((h0.kept KA (fun b hb _ h => h)).kept KK.out (fun b hb _ => hb.1.2.1)).kept KW (fun b hb _ e => by have := hb.1.1; omega)
            exact ChCells.weak (fun b hb _ => ⟨hb.1.1, fun h => by
              rcases (hA6 b h).2 with h | h
              · exact hb.1.2.1 h
              · have := hb.2; omega, hb.1.2.2⟩) h1
          have HK6 := hide (((HKP.out.step KA (fun b hb h => h)).step KK.out (fun b hb h => by have := hA0 b h; omega)).step KW (fun b hb h => by omega))
          have HCH6 := hide hCH6
          have hws := KW.size
          have hws2 := KK.out.size
          simp only [World.size_alloc] at hws2
          refine (Varint.rread_any (bf ++ [x]) A2 (n + 1) c2 _ W6 (O3.rd (by omega)) (by omega)).mono ?_
          rintro e w3 ⟨rfl, rfl⟩
          rw [HOUT.out]
          clear hW6 KW KA OO BB1 BB2 HA2 KK c60 c61 c62 f60 f61 f62 c10 c11 c12 f10 f11 f12 c20 c21 c22 f20 f21 f22 hsz2 hCH6 HB1 HB2 HKP HCHS
          obtain ⟨⟨c10, c11, c12⟩, ⟨f10, f11, f12⟩, _⟩ := B1.three
          obtain ⟨⟨c20, c21, c22⟩, ⟨f20, f21, f22⟩, hsz2⟩ := B2.three
          have HO3 := hide O3
          have HBB1 := hide B1
          have HBB2 := hide B2
          have HA6 := hide hA6
          clear O3 B1 B2 hA6
          have hle3 := HO3.out.le
          have hpn : 0 ≤ pn := by rw [HO.out.1]; omega
          have hpu : 0 ≤ pu := by rw [HO.out.2.1]; omega
          rcases he' with rfl | rfl | rfl
          · have hok := HOK.out (by have := HO.out.2.2; omega)
            have hpu1 : 1 ≤ pu ∧ pu ≤ n + 1 := by
              have h1 := hok.1
              have h2 := hok.2.1
              have h3 := HBN.out
              rw [HO.out.2.1]
              simp at h2
              omega
            have hpnx : pn < 18446744073709551616 := by rw [HO.out.1]; have := hok.2.2.2; omega
            clear hok
            have hF0 : (feed1 ⟨bf, 0, false⟩ x) = if 4096 < pn then (⟨[], pn, false⟩, [⟨[], 2⟩]) else if (n : Int) + 1 - pu < pn then (⟨bf ++ [x], 0, false⟩, []) else (⟨[], 0, false⟩, [⟨(bf ++ [x]).drop pu.toNat, 0⟩]) := by
              have h1 := HO.out
              have h2 := HBN.out
              have h3 : (bf ++ [x]).length = bf.length + 1 := by simp
              unfold feed1
              dsimp only
              rw [if_neg (by simp), if_neg (by omega), if_neg (by omega), if_neg (by omega)]
              rw [h3]
              by_cases hb : 4096 < pn
              · rw [if_pos (by omega), if_pos hb, ← h1.1]
              · rw [if_neg (by omega), if_neg hb]
                by_cases hm : (n : Int) + 1 - pu < pn
                · rw [if_pos (by omega), if_pos hm]
                · rw [if_neg (by omega), if_neg hm, h1.2.1]; simp
            by_cases hbig : 4096 < pn
            · rw [if_pos hbig] at hF0
              have HF1 : Hid (((feed1 ⟨bf, 0, false⟩ x).1, chs ++ (feed1 ⟨bf, 0, false⟩ x).2) = (⟨[], pn, false⟩, chs ++ [⟨[], 2⟩])) := by rw [Hid, hF0]
              have hm2 := hmm.out _ _ hF0
              simp only [List.length_cons, List.length_nil] at hm2
              clear hF0
              go_wp2_with (first
                | (at_builtin
                   refine wpList_app _ elemCh rfl (.tmp 60) (.tmp 62) rfl (w.heap.size + 2) _ rfl (HOC6.out.kept ((Keeps.refl (fun _ => False) W6).alloc _) (fun _ _ h => h)) _ (m := 1) [.slice none 0 0, .int .i64 2] rfl (by exact Blk.rd (xs := [.slice none 0 0, .int .i64 2]) (Blk.new_at _ _ _ _ (by simp)) rfl) (by simp [Value.oneCell']) (by simp only [maxLen]; omega) (by omega) (by simp; omega) ?_
                   intro C7 mc7 w7 o7 k7 hC7
                   have B7 := (HBB1.out.alloc (.cells #[.slice none 0 0, .int .i64 2] 42)).kept k7 (fun h => by have := hCB _ h; omega)
                   obtain ⟨⟨c70, c71, c72⟩, ⟨f70, f71, f72⟩, hsz7⟩ := B7.three
                   have HB7 := hide B7
                   have HO7 := hide o7
                   have HK7 := hide k7
                   have HC7 := hide hC7
                   clear o7 k7 hC7 B7))
              have KS := set3_keeps w7 w.heap.size (.slice none 0 0) (.int .u64 pn) (.bool false)
              have KA := (Keeps.refl (fun _ => False) W6).alloc (.cells #[.slice none 0 0, .int .i64 2] 42)
              have K7 := HK7.out
              go_roundw
              case rel =>
                refine ⟨k + 1, by omega, by go_num, [], pn, false, chs ++ [⟨[], 2⟩], none, 0, 0, _, _, _, _, rfl, HSN.out.trans HF1.out, ((HB7.out.set 0 _).set 1 _).set 2 _, ((HBB2.out.alloc _).kept K7 (fun h => by have := hCB _ h; omega)).kept KS (by omega), Own.nil _ _ _ _, HO7.out.kept KS (fun b hb e => by have := HO7.out.inB hb; omega), ?_, ?_⟩
                · refine ChCells.append ?_ ⟨⟨none, 0, 0, rfl, rfl, fun h => by omega⟩, rfl, trivial⟩
                  have h1 := ChCells.weak (Q := fun b => (w.heap.size + 2 ≤ b ∧ ¬ inB C b) ∧ b < W6.heap.size) (fun b hb hl => ⟨⟨hb.1, hb.2.2⟩, hl⟩) HCH6.out
                  have h2 := h1.kept KA (fun b hb _ h => h)
                  have h3 := h2.kept K7 (fun b hb _ h => hb.1.2 h)
                  have h4 := h3.kept KS (fun b hb _ h => by have := hb.1.1; omega)
                  exact ChCells.weak (fun b hb _ => ⟨hb.1.1, inB_none b, fun h => by
                    rcases HC7.out b h with h | h
                    · exact hb.1.2 h
                    · simp at h; have := hb.2; omega⟩) h4
                · exact ((HK6.out.step KA (fun b hb h => h)).step K7 (fun b hb h => by have := hCB _ h; omega)).step KS (fun b hb h => by omega)
              case measure => simp [intOf]; omega
            · rw [if_neg hbig] at hF0
              by_cases hmore : (n : Int) + 1 - pu < pn
              · rw [if_pos hmore] at hF0
                have HF1 : Hid (((feed1 ⟨bf, 0, false⟩ x).1, chs ++ (feed1 ⟨bf, 0, false⟩ x).2) = (⟨bf ++ [x], 0, false⟩, chs)) := by rw [Hid, hF0]; simp
                clear hF0
                go_wp2_with fail
                go_roundw
                case rel => exact ⟨k + 1, by omega, by go_num, bf ++ [x], 0, false, chs, A2, n + 1, c2, C, m, mc, cells, rfl, HSN.out.trans HF1.out, HBB1.out, HBB2.out, HO3.out, HOC6.out, HCH6.out, HK6.out⟩
                case measure => simp [intOf]; omega
              · rw [if_neg hmore] at hF0
                have HF1 : Hid (((feed1 ⟨bf, 0, false⟩ x).1, chs ++ (feed1 ⟨bf, 0, false⟩ x).2) = (⟨[], 0, false⟩, chs ++ [⟨(bf ++ [x]).drop pu.toNat, 0⟩])) := by rw [Hid, hF0]
                have hm2 := hmm.out _ _ hF0
                simp only [List.length_cons, List.length_nil] at hm2
                clear hF0
                have hwh : (n : Int) + 1 - pu = pn := by
                  have h1 := HO.out
                  have h2 := HBN.out
                  have h4 : (bf ++ [x]).length = bf.length + 1 := by simp
                  have h3 := whole bf x (HGD.out (by simp)) (by omega) (by omega)
                  omega
                have hq1 : pu + pn ≤ n + 1 := by omega
                have hq2 : (n : Int) + 1 ≤ pu + pn := by omega
                clear hwh
                obtain ⟨g, rfl, hg1, hg2⟩ := HO3.out.some_ (by omega)
                obtain ⟨A4, hsl, hsr, hsb⟩ := sub_lh elem8 (some ⟨g, 0, none⟩) (n + 1) c2 .i64 .i64 pu (pu + pn) hpu (by omega) (by omega) hle3
                obtain ⟨mm, hmm'⟩ : ∃ mm, mm = (pu + pn).toNat - pu.toNat := ⟨_, rfl⟩
                have RD4 : Hid (Rd W6 W6.heap.size A4 1 mm (((bf ++ [x]).drop pu.toNat).map by8)) := by
                  have := hsr W6 _ _ (HO3.out.rd (by omega))
                  rw [Nat.mul_one, ← List.map_drop, ← List.map_take, ← hmm', Nat.mul_one, List.take_of_length_le (by have := HBN.out; simp; omega)] at this
                  exact this
                rw [← hmm'] at hsl
                have hmb : mm ≤ 5000 := by omega
                clear hsr hsb hmm'
                go_wp2_with (first
                  | (at_builtin
                     refine wpList_app _ elem8 rfl (.tmp 80) (.tmp 88) rfl (w.heap.size + 2) _ rfl (Own.new0 _ _ 5 1 _ (by simp) (by omega)) _ (m := mm) _ rfl (RD4.out.kept ((Keeps.refl (fun _ => False) W6).alloc _) (fun _ _ h => h)) (by8_one _) (by simp [maxLen]; omega) (by omega) (by simp; omega) ?_
                     intro A7 c7 w7 o7 k7 hA7
                     have B7 := (HBB1.out.alloc (.cells #[] 5)).kept k7 (fun h => by have := (inB_some _ _ _).1 h; omega)
                     obtain ⟨⟨c70, c71, c72⟩, ⟨f70, f71, f72⟩, hsz7⟩ := B7.three
                     rw [Nat.zero_add, List.nil_append] at o7
                     have hws7 := k7.size
                     simp only [World.size_alloc] at hws7
                     have HOC7 := hide ((HOC6.out.kept ((Keeps.refl (fun _ => False) W6).alloc (.cells #[] 5)) (fun _ _ h => h)).kept k7 (fun b hb h => by have := (inB_some _ _ _).1 h; have := hCB b hb; omega))
                     have HB7 := hide B7
                     have HO7 := hide o7
                     have HK7 := hide k7
                     have HA7 := hide hA7
                     clear o7 k7 hA7 B7)
                  | (at_builtin
                     refine wpList_app _ elemCh rfl (.tmp 79) (.tmp 91) rfl (w.heap.size + 2) _ rfl (HOC7.out.kept ((Keeps.refl (fun _ => False) w7).alloc _) (fun _ _ h => h)) _ (m := 1) [.slice A7 mm c7, .int .i64 0] rfl (by exact Blk.rd (xs := [.slice A7 mm c7, .int .i64 0]) (Blk.new_at _ _ _ _ (by simp)) rfl) (by simp [Value.oneCell']) (by simp only [maxLen]; omega) (by omega) (by simp; omega) ?_
                     intro C8 mc8 w8 o8 k8 hC8
                     have B8 := (HB7.out.alloc (.cells #[.slice A7 mm c7, .int .i64 0] 42)).kept k8 (fun h => by have := hCB _ h; omega)
                     obtain ⟨⟨c80, c81, c82⟩, ⟨f80, f81, f82⟩, hsz8⟩ := B8.three
                     have HB8 := hide B8
                     have HO8 := hide o8
                     have HK8 := hide k8
                     have HC8 := hide hC8
                     clear o8 k8 hC8 B8))
                have KS : Keeps (· = w.heap.size) w8 (w8.setCell ⟨w.heap.size, 0, none⟩ (.slice none 0 0)) := Keeps.setCell (S := (· = w.heap.size)) (p := ⟨w.heap.size, 0, none⟩) (Keeps.refl _ _) (.inl rfl) _
                have KA7 := (Keeps.refl (fun _ => False) w7).alloc (.cells #[.slice A7 mm c7, .int .i64 0] 42)
                have KA6 := (Keeps.refl (fun _ => False) W6).alloc (.cells #[] 5)
                have K7 := HK7.out
                have K8 := HK8.out
                have hA7 : ∀ b, inB A7 b → W6.heap.size ≤ b ∧ b < w7.heap.size := fun b hb => by
                  refine ⟨?_, (HO7.out.inB hb).2⟩
                  rcases HA7.out b hb with h | h
                  · have := (inB_some _ _ _).1 h; omega
                  · simp at h; omega
                go_roundw
                case rel =>
                  refine ⟨k + 1, by omega, by go_num, [], 0, false, chs ++ [⟨(bf ++ [x]).drop pu.toNat, 0⟩], none, 0, 0, _, _, _, _, rfl, HSN.out.trans HF1.out, HB8.out.set 0 _, ((((HBB2.out.alloc _).kept K7 (fun h => by have := (inB_some _ _ _).1 h; omega)).alloc _).kept K8 (fun h => by have := hCB _ h; omega)).kept KS (by omega), Own.nil _ _ _ _, HO8.out.kept KS (fun b hb e => by have := HO8.out.inB hb; omega), ?_, ?_⟩
                  · refine ChCells.append ?_ ⟨⟨A7, mm, c7, rfl, ?_⟩, rfl, trivial⟩
                    · have h1 := ChCells.weak (Q := fun b => (w.heap.size + 2 ≤ b ∧ ¬ inB C b) ∧ b < W6.heap.size) (fun b hb hl => ⟨⟨hb.1, hb.2.2⟩, hl⟩) HCH6.out
                      have h2 := (h1.kept KA6 (fun b hb _ h => h)).kept K7 (fun b hb _ h => by have := (inB_some _ _ _).1 h; have := hb.2; omega)
                      have h3 := (h2.kept KA7 (fun b hb _ h => h)).kept K8 (fun b hb _ h => hb.1.2 h)
                      have h4 := h3.kept KS (fun b hb _ h => by have := hb.1.1; omega)
                      exact ChCells.weak (fun b hb _ => ⟨hb.1.1, inB_none b, fun h => by
                        rcases HC8.out b h with h | h
                        · exact hb.1.2 h
                        · simp at h; have := hb.2; omega⟩) h4
                    · have h1 := own_rdP (P := fun b => W6.heap.size ≤ b ∧ b < w7.heap.size) HO7.out (by omega) hA7
                      have h2 := ((h1.kept KA7 (fun b hb _ h => h)).kept K8 (fun b hb _ h => by have := hCB b h; have := hb.1; omega)).kept KS (fun b hb _ h => by have := hb.1; omega)
                      exact h2.weak (fun b hb _ => ⟨by have := hb.1; omega, inB_none b, fun h => by
                        rcases HC8.out b h with h | h
                        · have := hCB b h; have := hb.1; omega
                        · simp at h; have := hb.2; omega⟩)
                  · exact ((((HK6.out.step KA6 (fun b hb h => h)).step K7 (fun b hb h => by have := (inB_some _ _ _).1 h; omega)).step KA7 (fun b hb h => h)).step K8 (fun b hb h => by have := hCB _ h; omega)).step KS (fun b hb h => by omega)
                case measure => simp [intOf]; omega
          · have hF0 : (feed1 ⟨bf, 0, false⟩ x) = (⟨bf ++ [x], 0, false⟩, []) := by
              have h1 := HO.out
              unfold feed1
              dsimp only
              rw [if_neg (by simp), if_neg (by omega), if_neg (by omega), if_pos (by omega)]
            have HF1 : Hid (((feed1 ⟨bf, 0, false⟩ x).1, chs ++ (feed1 ⟨bf, 0, false⟩ x).2) = (⟨bf ++ [x], 0, false⟩, chs)) := by rw [Hid, hF0]; simp
            clear hF0
            go_wp2_with fail
            go_roundw
            case rel => exact ⟨k + 1, by omega, by go_num, bf ++ [x], 0, false, chs, A2, n + 1, c2, C, m, mc, cells, rfl, HSN.out.trans HF1.out, HBB1.out, HBB2.out, HO3.out, HOC6.out, HCH6.out, HK6.out⟩
            case measure => simp [intOf]; omega
          · have hF0 : (feed1 ⟨bf, 0, false⟩ x) = (⟨[], 0, true⟩, [⟨[], 1⟩]) := by
              have h1 := HO.out
              unfold feed1
              dsimp only
              rw [if_neg (by simp), if_neg (by omega), if_pos (by omega)]
            have HF1 : Hid (((feed1 ⟨bf, 0, false⟩ x).1, chs ++ (feed1 ⟨bf, 0, false⟩ x).2) = (⟨[], 0, true⟩, chs ++ [⟨[], 1⟩])) := by rw [Hid, hF0]
            have hm2 := hmm.out _ _ hF0
            simp only [List.length_cons, List.length_nil] at hm2
            clear hF0
            go_wp2_with (first
              | (at_builtin
                 refine wpList_app _ elemCh rfl (.tmp 48) (.tmp 50) rfl (w.heap.size + 2) _ rfl (HOC6.out.kept ((Keeps.refl (fun _ => False) W6).alloc _) (fun _ _ h => h)) _ (m := 1) [.slice none 0 0, .int .i64 1] rfl (by exact Blk.rd (xs := [.slice none 0 0, .int .i64 1]) (Blk.new_at _ _ _ _ (by simp)) rfl) (by simp [Value.oneCell']) (by simp only [maxLen]; omega) (by omega) (by simp; omega) ?_
                 intro C7 mc7 w7 o7 k7 hC7
                 have B7 := (HBB1.out.alloc (.cells #[.slice none 0 0, .int .i64 1] 42)).kept k7 (fun h => by have := hCB _ h; omega)
                 obtain ⟨⟨c70, c71, c72⟩, ⟨f70, f71, f72⟩, hsz7⟩ := B7.three
                 have HB7 := hide B7
                 have HO7 := hide o7
                 have HK7 := hide k7
                 have HC7 := hide hC7
                 clear o7 k7 hC7 B7))
            have KS := set3_keeps w7 w.heap.size (.slice none 0 0) (.int .u64 0) (.bool true)
            have KA := (Keeps.refl (fun _ => False) W6).alloc (.cells #[.slice none 0 0, .int .i64 1] 42)
            have K7 := HK7.out
            go_roundw
            case rel =>
              refine ⟨k + 1, by omega, by go_num, [], 0, true, chs ++ [⟨[], 1⟩], none, 0, 0, _, _, _, _, rfl, HSN.out.trans HF1.out, ((HB7.out.set 0 _).set 1 _).set 2 _, ((HBB2.out.alloc _).kept K7 (fun h => by have := hCB _ h; omega)).kept KS (by omega), Own.nil _ _ _ _, HO7.out.kept KS (fun b hb e => by have := HO7.out.inB hb; omega), ?_, ?_⟩
              · refine ChCells.append ?_ ⟨⟨none, 0, 0, rfl, rfl, fun h => by omega⟩, rfl, trivial⟩
                have h1 := ChCells.weak (Q := fun b => (w.heap.size + 2 ≤ b ∧ ¬ inB C b) ∧ b < W6.heap.size) (fun b hb hl => ⟨⟨hb.1, hb.2.2⟩, hl⟩) HCH6.out
                have h2 := h1.kept KA (fun b hb _ h => h)
                have h3 := h2.kept K7 (fun b hb _ h => hb.1.2 h)
                have h4 := h3.kept KS (fun b hb _ h => by have := hb.1.1; omega)
                exact ChCells.weak (fun b hb _ => ⟨hb.1.1, inB_none b, fun h => by
                  rcases HC7.out b h with h | h
                  · exact hb.1.2 h
                  · simp at h; have := hb.2; omega⟩) h4
              · exact ((HK6.out.step KA (fun b hb h => h)).step K7 (fun b hb h => by have := hCB _ h; omega)).step KS (fun b hb h => by omega)
            case measure => simp [intOf]; omega
    · go_wp2_with fail
      refine bodyPost_ret (v := .tuple #[.agg #[.slice A n c, .int .u64 sk, .bool br], .slice C m mc]) (by simp [results, Try.results13, go_sem, c20, c21, c22, hsz2]) rfl ?_
      have hk2 : k = n2 := by omega
      subst hk2
      have hF := HF.out
      rw [List.take_of_length_le (by have := HLL.out; omega)] at hF
      rw [hF]
      have KS := set3_keeps wr (w.heap.size + 1) (.slice A n c) (.int .u64 sk) (.bool br)
      refine ⟨A, n, c, C, m, mc, cells, rfl, ?_, ?_, ?_, HKP.out.step KS (fun k hk h => by omega)⟩
      · exact (HO1.out.kept KS (fun b hb e => by have := HO1.out.inB hb; omega)).base_le (by omega)
      · exact (HOC.out.kept KS (fun b hb e => by have := HOC.out.inB hb; omega)).base_le (by omega)
      · exact ChCells.weak (fun b hb _ => by omega) (HCHS.out.kept KS (fun b hb _ e => by omega))
end Go.Proofs.Ytmbmlkllhcgkgaa
