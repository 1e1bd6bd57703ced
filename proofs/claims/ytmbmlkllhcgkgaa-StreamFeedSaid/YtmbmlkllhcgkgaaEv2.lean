/-
  The deck's events: three cells each, their tags in slices of the call's own.
-/
import Derived.Test.YtmbmlkllhcgkgaaEv
import Derived.Deep.CutRange
import Derived.Deep.CutBlock
import Derived.Deep.RegionLaw
set_option linter.unusedVariables false
set_option linter.unusedSimpArgs false
namespace Go.Proofs.Ytmbmlkllhcgkgaa
open Go.RowKit

/-- What Event gives. -/
def EvOf (tm : Int) (w : World) (B g : Nat) (e : Ending) (w' : World) : Prop :=
  ∃ (A : Option Addr) (n c : Nat) (xs : List Value) (wt : Int), e = .returned (.agg #[.slice A n c, .int .i64 tm, .int .u64 wt]) ∧ n ≤ 3 ∧ Own w' w.heap.size 68 2 A n c xs ∧ Texts 80 xs ∧ 0 ≤ wt ∧ wt < 18446744073709551616 ∧ IsDeck w' B g ∧ Keeps (· = g) w w'
/-- behind the switch -/
def EvMid (tm : Int) (w : World) (B g X : Nat) (wx : World) : Prop :=
  ∃ (A : Option Addr) (n c : Nat) (xs : List Value) (wt : Int), Blk wx w.heap.size 62 #[.slice none 0 0, .int .i64 0, .int .u64 0] ∧ Blk wx X 62 #[.slice A n c, .int .i64 tm, .int .u64 wt] ∧
    n ≤ 3 ∧ Own wx w.heap.size 68 2 A n c xs ∧ Texts 80 xs ∧ 0 ≤ wt ∧ wt < 18446744073709551616 ∧ IsDeck wx B g ∧ Keeps (· = g) w wx
/-- one more store into the event's own block -/
theorem EvMid.put {tm : Int} {w : World} {B g X : Nat} {wx : World} {A : Option Addr} {n c : Nat} {wt : Int} (i : Nat) (u : Value) {A' : Option Addr} {n' c' : Nat} {wt' : Int} {xs' : List Value}
    (b0 : Blk wx w.heap.size 62 #[.slice none 0 0, .int .i64 0, .int .u64 0]) (b1 : Blk wx X 62 #[.slice A n c, .int .i64 tm, .int .u64 wt]) (hX : w.heap.size < X) (hg : g < w.heap.size) (hB : B ≤ g)
    (o : Own wx w.heap.size 68 2 A' n' c' xs') (t : Texts 80 xs') (hn : n' ≤ 3) (h0 : 0 ≤ wt') (h1 : wt' < 18446744073709551616) (d : IsDeck wx B g) (k : Keeps (· = g) w wx)
    (he : #[Value.slice A n c, .int .i64 tm, .int .u64 wt].setIfInBounds i u = #[.slice A' n' c', .int .i64 tm, .int .u64 wt']) : EvMid tm w B g X (wx.setCell ⟨X, i, none⟩ u) := by
  have kS : Keeps (· = X) wx (wx.setCell ⟨X, i, none⟩ u) := Keeps.setCell (S := (· = X)) (p := ⟨X, i, none⟩) (Keeps.refl _ _) (.inl rfl) _
  refine ⟨A', n', c', xs', wt', b0.far (p := ⟨X, i, none⟩) (by show w.heap.size ≠ X; omega) _, ?_, hn, ?_, t, h0, h1, d.kept kS (by omega) (fun b hb => by omega), k.step kS (fun b hb e => by omega)⟩
  · rw [← he]; exact b1.set i u
  · exact o.kept kS (fun b hb e => (o.ne_blk b1 (by decide) hb) e)
/-- one more store into the tags -/
theorem EvMid.tag {tm : Int} {w : World} {B g X b : Nat} {wx : World} {n c : Nat} {xs : List Value} {wt : Int} (i : Nat) (s : ByteArray)
    (b0 : Blk wx w.heap.size 62 #[.slice none 0 0, .int .i64 0, .int .u64 0]) (b1 : Blk wx X 62 #[.slice (some ⟨b, 0, none⟩) n c, .int .i64 tm, .int .u64 wt]) (hX : w.heap.size < X) (hg : g < w.heap.size) (hB : B ≤ g)
    (o : Own wx w.heap.size 68 2 (some ⟨b, 0, none⟩) n c xs) (t : Texts 80 xs) (hn : n ≤ 3) (h0 : 0 ≤ wt) (h1 : wt < 18446744073709551616) (d : IsDeck wx B g) (k : Keeps (· = g) w wx) (hs : s.size ≤ 80) :
    EvMid tm w B g X (wx.setCell ⟨b, i, none⟩ (.string s)) := by
  have hb := o.inB ⟨_, rfl, rfl⟩
  have kS : Keeps (· = b) wx (wx.setCell ⟨b, i, none⟩ (.string s)) := Keeps.setCell (S := (· = b)) (p := ⟨b, i, none⟩) (Keeps.refl _ _) (.inl rfl) _
  have n1 := o.ne_blk b1 (by decide) ⟨_, rfl, rfl⟩
  have n0 := o.ne_blk b0 (by decide) ⟨_, rfl, rfl⟩
  dsimp only at hb n1 n0
  exact ⟨_, n, c, _, wt, b0.far (p := ⟨b, i, none⟩) (Ne.symm n0) _, b1.far (p := ⟨b, i, none⟩) (Ne.symm n1) _, hn, o.store i _, t.set i hs, h0, h1, d.kept kS (by omega) (fun b hb => by omega), k.step kS (fun b hb e => by omega)⟩

set_option maxRecDepth 100000 in
set_option maxHeartbeats 1000000 in
theorem event_any (tm : Int) (t0 : 0 ≤ tm) (t1 : tm ≤ 1000) (B g : Nat) (w : World) (h : IsDeck w B g) : Calls Try.prog 26 #[.pointer (some ⟨g, 0, none⟩), .int .i64 tm] w (EvOf tm w B g) := by
  have hgl := h.lt
  have hgB := h.le
  have hd0 := hide (h.quiet ((Keeps.refl (fun _ => False) w).alloc (.cells #[.slice none 0 0, .int .i64 0, .int .u64 0] 62)))
  have hb0 := hide (Blk.new w 62 #[.slice none 0 0, .int .i64 0, .int .u64 0])
  have kA := hide ((Keeps.refl (· = g) w).alloc (.cells #[.slice none 0 0, .int .i64 0, .int .u64 0] 62))
  clear h
  go_enter Try.func26, Try.ntmps26
  go_wp2_with fail
  refine (tags_any B g _ hd0.out).mono ?_
  rintro e w1 ⟨b, n, c, xs, rfl, n1, n2, o1, x1, d1, k1⟩
  have B1 := hide (hb0.out.kept k1 (by omega))
  have O1 := hide (o1.base_le (by simp) : Own w1 w.heap.size 68 2 (some ⟨b, 0, none⟩) n c xs)
  have K1 := hide (kA.out.trans k1)
  have X1 := hide (x1.more (M := 80) (by omega))
  have hs1 := K1.out.size
  clear o1 x1 k1 hd0 hb0 kA
  go_wp2_with fail
  refine (small_any B g _ d1).mono ?_
  rintro e w2 ⟨wt, rfl, y0, y1, d2, k2⟩
  have B2 := hide (B1.out.kept k2 (by omega))
  have O2 := hide (O1.out.kept k2 (fun q hq e => by have := O1.out.inB hq; omega))
  have K2 := hide (K1.out.trans k2)
  have hs2 := k2.size
  clear k2 B1 O1 K1 d1
  have kB := (Keeps.refl (fun _ => False) w2).alloc (.cells #[.slice (some ⟨b, 0, none⟩) n c, .int .i64 tm, .int .u64 wt] 62)
  have d2' := hide (d2.quiet kB)
  have hX : w.heap.size < w2.heap.size := by have := B2.out.lt; omega
  have b0 := hide (B2.out.kept kB (fun h => h))
  have b1 := hide (Blk.new w2 62 #[.slice (some ⟨b, 0, none⟩) n c, .int .i64 tm, .int .u64 wt])
  have o3 := hide (O2.out.kept kB (fun _ _ h => h))
  have k4 := hide (K2.out.step kB (fun _ _ h => h.elim))
  clear kB B2 O2 K2 d2 hs2
  go_wp2_with fail
  refine (next_any 24 (by omega) (by omega) B g _ d2'.out).mono ?_
  rintro e w3 ⟨v, rfl, v0, v1, d3, k3⟩
  have b0 := b0.out.kept k3 (by omega)
  have b1 := b1.out.kept k3 (by omega)
  have o4 := o3.out.kept k3 (fun q hq e => by have := o3.out.inB hq; omega)
  have K4 := hide (k4.out.trans k3)
  generalize w2.heap.size = X at *
  have hb3 := o4.inB ⟨_, rfl, rfl⟩
  dsimp only at hb3
  obtain ⟨⟨c10, c11, c12⟩, ⟨f10, f11, f12⟩, hXl⟩ := b1.three
  have hol := o4.len
  obtain ⟨s0, hs0, hs0'⟩ := X1.out.at_ 0 (by omega)
  obtain ⟨s1, hs1', hs1''⟩ := X1.out.at_ 1 (by omega)
  have g0 := (o4.cell 0 (by omega)).trans hs0
  have g1 := (o4.cell 1 (by omega)).trans hs1'
  have h0 := o4.frozen 0
  have h1 := o4.frozen 1
  have hnI : 0 < n := by omega
  have B0 := hide b0
  have B1 := hide b1
  have O3 := hide o4
  have D3 := hide d3
  clear b0 b1 o4 k4 o3 k3 hs0 hs1' hol d3
  go_upto_block 0 with (fail)
  go_cut [] from 14 to 54 (fun wx => EvMid tm w B g X wx)
  case first =>
    trace "FIRST"
    go_wp2_with fail
    · refine (weight_any B g _ D3.out).mono ?_
      rintro e w4 ⟨y, rfl, y0, y1, d4, k4⟩
      have b0 := hide (B0.out.kept k4 (by omega))
      have b1 := B1.out.kept k4 (by omega)
      have o4 := hide (O3.out.kept k4 (fun q hq e => by have := O3.out.inB hq; omega))
      have K5 := hide (K4.out.trans k4)
      obtain ⟨⟨c10, c11, c12⟩, ⟨f10, f11, f12⟩, hXl'⟩ := b1.three
      have b1 := hide b1
      have d4 := hide d4
      clear k4 B0 B1 O3 D3 K4
      go_wp2_with fail
      go_meet
      exact EvMid.put 2 _ b0.out b1.out hX hgl hgB o4.out X1.out (by omega) y0 y1 d4.out K5.out rfl
    · go_region_law ((refine step_app _ elemTag (by rfl) (.tmp 22) (.tmp 27) (by rfl) w.heap.size _ (by rfl) (by exact O3.out.kept (((Keeps.refl (fun _ => False) w3).drew).alloc _) (fun _ _ h => h)) _ (m := 1) _ (by rfl) (Blk.rd (Blk.new_at _ _ _ _ (by first | rfl | simp)) (by rfl)) (Texts.one (Texts.two hs0' hs1'')) (by simp only [maxLen]; omega) (by omega) (by first | omega | (simp; omega)) ?_; intro A5 c5 w5 o5 k5 hA5; have hkA := ((Keeps.refl (fun _ => False) w3).drew).alloc (.cells #[.string s0, .string s1] 68); have B15 := (B1.out.kept hkA (fun h => h)).kept k5 (fun h => (O3.out.ne_blk B1.out (by decide) h) rfl); have B05 := hide ((B0.out.kept hkA (fun h => h)).kept k5 (fun h => (O3.out.ne_blk B0.out (by decide) h) rfl)); have D5 := hide ((D3.out.kept hkA (fun h => h) (fun _ _ h => h)).kept k5 (fun h => by have := O3.out.inB h; omega) (fun b hb h => by have := O3.out.inB h; omega)); have K5 := hide ((K4.out.step hkA (fun _ _ h => h.elim)).step k5 (fun b hb h => by have := O3.out.inB h; omega)); have O5 := hide o5; have f50 := B15.frozen 0; have c50 := B15.cell 0; have hX5 := B15.lt; have B15 := hide B15; clear o5 k5 hA5 hkA))
      all_goals
        go_wp2_with fail
        go_meet
        exact EvMid.put 0 _ B05.out B15.out hX hgl hgB O5.out (X1.out.append (Texts.two hs0' hs1'')) (by omega) (by omega) (by omega) D5.out K5.out rfl
    · go_meet
      exact EvMid.tag 0 _ B0.out B1.out hX hgl hgB O3.out X1.out (by omega) (by omega) (by omega) D3.out K4.out (by decide)
    · go_meet
      exact EvMid.put 2 _ B0.out B1.out hX hgl hgB O3.out X1.out (by omega) (by omega) (by omega) D3.out K4.out rfl
    · go_meet
      exact EvMid.put 0 _ B0.out B1.out hX hgl hgB (Own.nil _ _ _ _) (fun u hu => by cases hu) (by omega) (by omega) (by omega) D3.out K4.out rfl
    · go_meet
      exact EvMid.tag 1 _ B0.out B1.out hX hgl hgB O3.out X1.out (by omega) (by omega) (by omega) D3.out K4.out (by decide)
    · refine (next_any 2 (by omega) (by omega) B g _ D3.out).mono ?_
      rintro e w4 ⟨y, rfl, y0, y1, d4, k4⟩
      have b0 := hide (B0.out.kept k4 (by omega))
      have b1 := B1.out.kept k4 (by omega)
      have o4 := hide (O3.out.kept k4 (fun q hq e => by have := O3.out.inB hq; omega))
      have K5 := hide (K4.out.trans k4)
      obtain ⟨⟨c10, c11, c12⟩, ⟨f10, f11, f12⟩, hXl'⟩ := b1.three
      have b1 := hide b1
      have d4 := hide d4
      clear k4 B0 B1 O3 D3 K4
      go_wp2_with fail
      go_meet
      exact EvMid.put 2 _ b0.out b1.out hX hgl hgB o4.out X1.out (by omega) (by omega) (by omega) d4.out K5.out rfl
    · go_meet
      exact ⟨_, n, c, xs, wt, B0.out, B1.out, by omega, O3.out, X1.out, by omega, by omega, D3.out, K4.out⟩
  case rest =>
  obtain ⟨A, m, cc, ys, y, b0, b1, hm, o, x, y0, y1, d, k⟩ := hcut
  obtain ⟨⟨g10, g11, g12⟩, ⟨h10, h11, h12⟩, hXl'⟩ := b1.three
  obtain ⟨⟨g20, g21, g22⟩, ⟨h20, h21, h22⟩, hXl2⟩ := b0.three
  have B0' := hide b0
  have O' := hide o
  have D' := hide d
  have K' := hide k
  clear b0 b1 o d k c10 c11 c12 f10 f11 f12 g0 g1 h0 h1 B0 B1 O3 D3 K4
  go_wp2_with fail
  trace "REST"
  refine bodyPost_ret (v := .agg #[.slice A m cc, .int .i64 tm, .int .u64 y]) (by simp [results, Try.results26, go_sem, g20, g21, g22, hXl2]) rfl ?_
  have kS : Keeps (· = w.heap.size) wc (((wc.setCell ⟨w.heap.size, 0, none⟩ (.slice A m cc)).setCell ⟨w.heap.size, 1, none⟩ (.int .i64 tm)).setCell ⟨w.heap.size, 2, none⟩ (.int .u64 y)) := ((Keeps.setCell (S := (· = w.heap.size)) (p := ⟨w.heap.size, 0, none⟩) (Keeps.refl _ _) (.inl rfl) _).setCell (p := ⟨w.heap.size, 1, none⟩) (.inl rfl) _).setCell (p := ⟨w.heap.size, 2, none⟩) (.inl rfl) _
  exact ⟨A, m, cc, ys, y, rfl, hm, O'.out.kept kS (fun b hb e => (O'.out.ne_blk B0'.out (by decide) hb) e), x, y0, y1, D'.out.kept kS (by omega) (fun b hb => by omega), K'.out.step kS (fun b hb e => by omega)⟩
end Go.Proofs.Ytmbmlkllhcgkgaa
