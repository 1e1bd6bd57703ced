/-
  stream.Feed: a piece of bytes, by its contract.
-/
import Derived.Test.YtmbmlkllhcgkgaaStream
set_option linter.unusedVariables false
set_option linter.unusedSimpArgs false
namespace Go.Proofs.Ytmbmlkllhcgkgaa
open Go.RowKit
open Vp Stp

theorem elemCh : ElemOf Try.prog 29 42 2 32 := ElemOf.mk' (z := .agg #[.slice none 0 0, .int .i64 0]) Try.underlying29 (by kernel_rfl) rfl (by omega)

/-- what feeding a piece leaves -/
def FedL (w : World) (r : St × List Ch) (e : Ending) (w' : World) : Prop :=
  ∃ (A' : Option Addr) (n' c' : Nat) (C : Option Addr) (m mc : Nat) (cells : List Value),
    e = .returned (.tuple #[.agg #[.slice A' n' c', .int .u64 r.1.skip, .bool r.1.broken], .slice C m mc]) ∧ Own w' w.heap.size 5 1 A' n' c' (r.1.buf.map by8) ∧
    Own w' w.heap.size 42 2 C m mc cells ∧ ChCells w' (fun b => w.heap.size ≤ b) cells r.2 ∧ Keeps (fun _ => False) w w'

theorem Feed_any (s : St) (hg : Stp.Good s) (hsb : s.buf.length ≤ 100000) (A : Option Addr) (n c B : Nat) (w : World) (hr : Rd w B A 1 n (s.buf.map by8)) (hB : B ≤ w.heap.size) (l : List UInt8) (A2 : Option Addr) (n2 c2 B2 : Nat)
    (hr2 : Rd w B2 A2 1 n2 (l.map by8)) (hB2 : B2 ≤ w.heap.size) (hn2 : n2 ≤ 140737488351232) (hch : (feedL s l).2.length ≤ 1000000) :
    Calls Try.prog 9 #[.agg #[.slice A n c, .int .u64 s.skip, .bool s.broken], .slice A2 n2 c2] w (FedL w (feedL s l)) := by
  have hln : s.buf.length = n := by simpa using hr.1
  have hll : l.length = n2 := by simpa using hr2.1
  obtain ⟨buf, skip, broken⟩ := s
  have hgood := hg
  obtain ⟨g0, g1, g2⟩ := hg
  simp only at g0 g1 g2 hsb hln hr ⊢
  have HR := hide hr
  have HR2 := hide hr2
  have HL := hide hln
  have HLL := hide hll
  have hn : n ≤ 100000 := by omega
  have HG := hide hgood
  have HCH := hide hch
  clear hr hr2 hln hll g2 hgood hch
  go_enter Try.func9, Try.ntmps9
  go_wp2_with (first
    | (at_builtin
       refine wpList_app _ elem8 rfl (.tmp 11) (.tmp 13) rfl w.heap.size _ rfl (Own.new0 _ _ 5 1 _ (by simp) (by omega)) _ (m := n) _ rfl (HR.out.kept ((((Keeps.refl (fun _ => False) w).alloc _).alloc _).alloc _) (fun _ _ h => h)) (by8_one _) (by simp [maxLen]; omega) (by omega) (by first | omega | (simp; done) | (simp; omega)) ?_
       intro A5 c5 w5 o5 k5 hA5
       have B1 : Blk w5 w.heap.size 28 #[.slice A n c, .int .u64 skip, .bool broken] := ((((Blk.new w _ _).alloc _).alloc _)).kept k5 (fun h => by have := (inB_some _ _ _).1 h; omega)
       have B2 : Blk w5 (w.heap.size + 1) 28 #[.slice none 0 0, .int .u64 0, .bool false] := ((Blk.new_at _ _ _ _ (by simp)).alloc _).kept k5 (fun h => by have := (inB_some _ _ _).1 h; omega)
       obtain ⟨⟨c10, c11, c12⟩, ⟨f10, f11, f12⟩, _⟩ := B1.three
       obtain ⟨⟨c20, c21, c22⟩, ⟨f20, f21, f22⟩, hsz2⟩ := B2.three
       rw [Nat.zero_add, List.nil_append] at o5
       have O5 := hide o5
       have K5 := hide k5
       have HA5 := hide hA5
       have BB1 := hide B1
       have BB2 := hide B2
       clear o5 k5 hA5 B1 B2))
  obtain ⟨W, hW⟩ : ∃ W, W = w5.setCell ⟨w.heap.size, 0, none⟩ (.slice A5 n c5) := ⟨_, rfl⟩
  rw [← hW]
  have hA5 : ∀ k, inB A5 k → w.heap.size + 2 ≤ k := fun k h => by
    rcases HA5.out k h with h | h
    · have := (inB_some _ _ _).1 h; omega
    · simp at h; omega
  have KW : Keeps (· = w.heap.size) w5 W := by rw [hW]; exact Keeps.setCell (S := (· = w.heap.size)) (p := ⟨w.heap.size, 0, none⟩) (Keeps.refl _ _) (.inl rfl) _
  have B1 : Blk W w.heap.size 28 #[.slice A5 n c5, .int .u64 skip, .bool broken] := by rw [hW]; exact BB1.out.set 0 _
  have B2 : Blk W (w.heap.size + 1) 28 #[.slice none 0 0, .int .u64 0, .bool false] := BB2.out.kept KW (by omega)
  have K6 : Keeps (fun _ => False) w W := ((((((Keeps.refl _ w).alloc _).alloc _).alloc _).step K5.out (fun k hk h => by have := (inB_some _ _ _).1 h; omega))).step KW (fun k hk h => by omega)
  have O6 : Own W (w.heap.size + 2) 5 1 A5 n c5 (buf.map by8) := by
    have := O5.out.kept KW (fun k h e => by have := hA5 k h; omega)
    refine ⟨this.1, ?_⟩
    rcases this.2 with h | ⟨g, cap, cur, hv, hb, r⟩
    · exact .inl h
    · exact .inr ⟨g, cap, cur, hv, by injection hv with h1; exact hA5 g ⟨_, h1, rfl⟩, r⟩
  have hWs := B2.lt
  have hch : ∀ k, (feedL ⟨buf, skip, broken⟩ (l.take k)).2.length ≤ 1000000 := fun k => by
    have h1 := HCH.out
    have h2 := feedL_append ⟨buf, skip, broken⟩ (l.take k) (l.drop k)
    rw [List.take_append_drop] at h2
    rw [h2] at h1
    simp at h1
    omega
  have HC := hide hch
  have HK6 := hide K6
  have HO6 := hide O6
  have HB1 := hide B1
  have HB2 := hide B2
  clear hA5 KW B1 B2 K6 O6 hch HCH HA5 O5 K5 BB1 BB2 c10 c11 c12 f10 f11 f12 c20 c21 c22 f20 f21 f22 hsz2 hW
  go_loopw [6, 18] (fun out i wr => ∃ (k : Nat) (bf : List UInt8) (sk : Int) (br : Bool) (chs : List Ch) (A : Option Addr) (n c : Nat) (C : Option Addr) (m mc : Nat) (cells : List Value), k ≤ n2 ∧ i = .int .i64 k ∧ out = .slice C m mc ∧
      Hid (feedL ⟨buf, skip, broken⟩ (l.take k) = (⟨bf, sk, br⟩, chs)) ∧ Blk wr w.heap.size 28 #[.slice A n c, .int .u64 sk, .bool br] ∧ Blk wr (w.heap.size + 1) 28 #[.slice none 0 0, .int .u64 0, .bool false] ∧
      Own wr (w.heap.size + 2) 5 1 A n c (bf.map by8) ∧ Own wr (w.heap.size + 2) 42 2 C m mc cells ∧ ChCells wr (fun b => w.heap.size + 2 ≤ b ∧ ¬ inB A b ∧ ¬ inB C b) cells chs ∧ Keeps (fun _ => False) w wr) (fun _ i _ => n2 - (intOf i).toNat)
  case atStart =>
    exact ⟨0, buf, skip, broken, [], A5, n, c5, none, 0, 0, [], by omega, rfl, rfl, rfl, HB1.out, HB2.out, HO6.out, Own.nil _ _ _ _, trivial, HK6.out⟩
  case round =>
    obtain ⟨k, bf, sk, br, chs, A, n, c, C, m, mc, cells, hk, rfl, rfl, HF, B1, B2, o1, oc, ch, kp⟩ := hrel
    have hgd : Stp.Good ⟨bf, sk, br⟩ := by
      have := good_feedL ⟨buf, skip, broken⟩ (l.take k) HG.out
      rwa [HF.out] at this
    have hcn := HC.out k
    rw [HF.out] at hcn
    have hcl := ch.len
    have hm : m = chs.length := by have := oc.len; omega
    have hm1 : m ≤ 1000000 := by rw [hm]; exact hcn
    obtain ⟨⟨c10, c11, c12⟩, ⟨f10, f11, f12⟩, _⟩ := B1.three
    obtain ⟨⟨c20, c21, c22⟩, ⟨f20, f21, f22⟩, hsz2⟩ := B2.three
    have RP := hide (HR2.out.kept kp (fun _ _ h => h))
    have HGD := hide hgd
    have HB1 := hide B1
    have HB2 := hide B2
    have HO1 := hide o1
    have HOC := hide oc
    have HCHS := hide ch
    have HM := hide hm
    have HKP := hide kp
    clear hgd B1 B2 o1 oc ch hcn hcl hm kp
    by_cases hlt : k < n2
    · obtain ⟨b, off, rfl, _, hc⟩ := RP.out.2 (by omega)
      have hx := hc k (by8 (l.getD k 0)) (by have := HLL.out; simp [List.getD, show k < l.length by omega])
      have HSN : Hid (feedL ⟨buf, skip, broken⟩ (l.take (k + 1)) = ((feed1 ⟨bf, sk, br⟩ (l.getD k 0)).1, chs ++ (feed1 ⟨bf, sk, br⟩ (l.getD k 0)).2)) := by
        have h1 := HLL.out
        have h2 : l.take (k + 1) = l.take k ++ [l.getD k 0] := by rw [List.take_succ_eq_append_getElem (by omega)]; simp [List.getD, show k < l.length by omega]
        show feedL _ _ = _
        rw [h2, feedL_snoc, HF.out]
      generalize l.getD k 0 = x at *
      have HFD := hide (fun W o h => feed_any ⟨bf, sk, br⟩ HGD.out A n c (w.heap.size + 2) W o h x)
      generalize feed1 ⟨bf, sk, br⟩ x = q at *
      obtain ⟨⟨bf2, sk2, br2⟩, chs2⟩ := q
      simp only [by8] at hx
      clear hc
      go_wp2_with fail
      refine (HFD.out _ HO1.out (by first | exact hsz2 | (simp; omega))).mono ?_
      rintro e w1 ⟨A', n', c', C2, m2, mc2, cells2, rfl, o', hA', oc2, ch2, k1⟩
      have hcl2 := ch2.len
      dsimp only at hcl2 o' ch2
      have hm2 : m2 = chs2.length := by have := oc2.len; omega
      have hmm : m + m2 ≤ 1000000 := by
        have h1 := HC.out (k + 1)
        rw [HSN.out] at h1
        simp at h1
        have := HM.out
        omega
      have hA0 : ∀ k, inB A k → w.heap.size + 2 ≤ k ∧ k < wr.heap.size := fun k h => HO1.out.inB h
      have B1 := HB1.out.kept k1 (fun h => by have := hA0 _ h; omega)
      have B2 := HB2.out.kept k1 (fun h => by have := hA0 _ h; omega)
      have HB1' := hide B1
      have HB2' := hide B2
      obtain ⟨⟨c10, c11, c12⟩, ⟨f10, f11, f12⟩, hsz1⟩ := B1.three
      have HCH2 := hide ch2
      have HO' := hide o'
      have HOC2 := hide oc2
      have HA' := hide hA'
      have HK1 := hide k1
      have HA0 := hide hA0
      have HM2 := hide hm2
      have HC0 := hide (HOC.out.kept k1 (fun b hb h => HO1.out.ne HOC.out (by decide) h hb))
      have HC1 := hide (fun v0 v1 v2 o => HC0.out.kept ((set3_keeps w1 w.heap.size v0 v1 v2).alloc o) (fun b hb e => by have := HC0.out.inB hb; omega))
      have HD1 := hide (fun v0 v1 v2 o => (HOC2.out.kept ((set3_keeps w1 w.heap.size v0 v1 v2).alloc o) (fun b hb e => by have := HOC2.out.inB hb; omega)).rd (by omega))
      have hw1 := HK1.out.size
      clear B1 B2 ch2 o' oc2 hA' k1 hA0 hcl2 hm2 HB1 HB2
      go_wp2_with (first
        | (at_builtin
           refine wpList_app _ elemCh rfl (.tmp 29) (.tmp 30) rfl (w.heap.size + 2) _ rfl (HC1.out _ _ _ _) _ _ rfl (HD1.out _ _ _ _) HCH2.out.one (by simp only [maxLen]; omega) (by omega) (by simp [World.setCell]; omega) ?_
           intro C3 mc3 w3 oc3 k3 hC3
           have HO3 := hide oc3
           have HK3 := hide k3
           have HC3 := hide hC3
           clear oc3 k3 hC3))
      obtain ⟨W3, hW3⟩ : ∃ W3, W3 = (((w1.setCell ⟨w.heap.size, 0, none⟩ (.slice A' n' c')).setCell ⟨w.heap.size, 1, none⟩ (.int .u64 sk2)).setCell ⟨w.heap.size, 2, none⟩ (.bool br2)).alloc (.cells #[.slice A' n' c', .int .u64 sk2, .bool br2] 28) := ⟨_, rfl⟩
      have KS : Keeps (· = w.heap.size) w1 W3 := by rw [hW3]; exact (set3_keeps w1 w.heap.size _ _ _).alloc _
      have BS : Blk W3 w.heap.size 28 #[.slice A' n' c', .int .u64 sk2, .bool br2] := by rw [hW3]; exact (((HB1'.out.set 0 _).set 1 _).set 2 _).alloc _
      have K3 := HK3.out
      have C3 := HC3.out
      rw [← hW3] at K3 C3
      have hws := KS.size
      go_roundw
      case rel =>
        refine ⟨k + 1, bf2, sk2, br2, chs ++ chs2, A', n', c', _, _, _, _, by omega, by go_num, rfl, HSN.out, BS.kept K3 (fun h => by have := HC0.out.inB h; omega), (HB2'.out.kept KS (by omega)).kept K3 (fun h => by have := HC0.out.inB h; omega), ?_, HO3.out, ?_, ?_⟩
        · have h1 := HO'.out.kept KS (fun b hb e => by have := HO'.out.inB hb; omega)
          exact h1.kept K3 (fun b hb h => h1.ne (HC0.out.kept KS (fun b hb e => by have := HC0.out.inB hb; omega)) (by decide) hb h)
        · have hc1 : ∀ b, inB C b → w.heap.size + 2 ≤ b ∧ b < wr.heap.size := fun b hb => HOC.out.inB hb
          have ha0 : ∀ b, inB A b → w.heap.size + 2 ≤ b := fun b hb => (HA0.out b hb).1
          refine ChCells.append ?_ ?_
          · have h0 : ChCells wr (fun b => (w.heap.size + 2 ≤ b ∧ ¬ inB A b ∧ ¬ inB C b) ∧ b < wr.heap.size) cells chs := ChCells.weak (fun b hb hl => ⟨hb, hl⟩) HCHS.out
            have h1 := h0.kept HK1.out (fun b hb _ => hb.1.2.1)
            have h2 := h1.kept KS (fun b hb _ e => by have := hb.1.1; omega)
            have h3 := h2.kept K3 (fun b hb _ h => hb.1.2.2 h)
            exact ChCells.weak (fun b hb _ => ⟨hb.1.1, fun h => by
              rcases HA'.out b h with h | h
              · exact hb.1.2.1 h
              · have := hb.2; omega, fun h => by
              rcases C3 b h with h | h
              · exact hb.1.2.2 h
              · have := hb.2; omega⟩) h3
          · have h0 := ChCells.weak (Q := fun b => (wr.heap.size ≤ b ∧ ¬ inB A' b) ∧ b < w1.heap.size) (fun b hb hl => ⟨hb, hl⟩) HCH2.out
            have h2 := h0.kept KS (fun b hb _ e => by have := hb.1.1; omega)
            have h3 := h2.kept K3 (fun b hb _ h => by have := hc1 b h; have := hb.1.1; omega)
            exact ChCells.weak (fun b hb _ => ⟨by have := hb.1.1; omega, hb.1.2, fun h => by
              rcases C3 b h with h | h
              · have := hc1 b h; have := hb.1.1; omega
              · have := hb.2; omega⟩) h3
        · exact ((HKP.out.step HK1.out (fun b hb h => by have := (HA0.out b h).1; omega)).step KS (fun b hb h => by omega)).step K3 (fun b hb h => by have := HOC.out.inB h; omega)
      case measure => simp [intOf]; omega
    · go_wp2_with fail
      refine bodyPost_ret (v := .tuple #[.agg #[.slice A n c, .int .u64 sk, .bool br], .slice C m mc]) (by simp [results, Try.results9, go_sem, c20, c21, c22, hsz2]) rfl ?_
      have hk2 : k = n2 := by omega
      subst hk2
      have hF := HF.out
      rw [List.take_of_length_le (by have := HLL.out; omega)] at hF
      rw [hF]
      have KS := set3_keeps wr (w.heap.size + 1) (.slice A n c) (.int .u64 sk) (.bool br)
      refine ⟨A, n, c, C, m, mc, cells, rfl, ?_, ?_, ?_, HKP.out.step KS (fun k hk h => by omega)⟩
      · exact (HO1.out.kept KS (fun b hb e => by have := HO1.out.inB hb; omega)).base_le (by omega)
      · exact (HOC.out.kept KS (fun b hb e => by have := HOC.out.inB hb; omega)).base_le (by omega)
      · exact ChCells.weak (fun b hb _ => by omega) (HCHS.out.kept KS (fun b hb _ e => by omega))
end Go.Proofs.Ytmbmlkllhcgkgaa
