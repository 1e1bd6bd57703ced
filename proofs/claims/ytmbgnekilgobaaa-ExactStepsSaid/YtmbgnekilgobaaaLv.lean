/-
  Lines of a deck, and the comparison of two lists of lines that are the same. No conditions beyond those of the statement.
-/
import Derived.Test.YtmbgnekilgobaaaLt
import Derived.Test.YtmbgnekilgobaaaShort
import Derived.Deep.RegionLaw
set_option linter.unusedVariables false
set_option linter.unusedSimpArgs false
namespace Go.Proofs.Ytmbgnekilgobaaa
open Go.RowKit
theorem ln_cells {w : World} {g : Nat} {t : TypeId} {x : Ln} (h : Blk w g t (lnC x).toArray) : w.cell? ⟨g, 0, none⟩ = some (.string x.key) ∧ w.cell? ⟨g, 1, none⟩ = some (.int .u64 x.lo) ∧ w.cell? ⟨g, 2, none⟩ = some (.int .u64 x.hi) := ⟨h.cell 0, h.cell 1, h.cell 2⟩
theorem lnC_one (x : Ln) : ∀ u ∈ lnC x, u.oneCell' = true := by intro u hu; simp [lnC] at hu; rcases hu with rfl | rfl | rfl <;> rfl
theorem lnCs1 (x : Ln) : lnCs [x] = lnC x := by simp [lnCs]
theorem lnCs_take (l : List Ln) (k : Nat) : (lnCs l).take (k * 3) = lnCs (l.take k) := (Fl.take lnC 3 (fun _ => rfl) l k).symm
theorem lnCs_drop (l : List Ln) (k : Nat) : (lnCs l).drop (k * 3) = lnCs (l.drop k) := (Fl.drop lnC 3 (fun _ => rfl) l k).symm
/-- a small line -/
def Small (x : Ln) : Prop := 0 ≤ x.lo ∧ x.lo ≤ x.hi ∧ x.hi ≤ 1000000
/-- what Lines gives -/
def LinesPost (w : World) (B g : Nat) (n : Int) (e : Ending) (w' : World) : Prop :=
  ∃ (A : Option Addr) (k c : Nat) (l : List Ln), e = .returned (.slice A k c) ∧ (k : Int) ≤ n ∧ (∀ x ∈ l, Small x) ∧ Lns w' w.heap.size A k c l ∧ IsDeck w' B g ∧ Keeps (· = g) w w'
set_option maxRecDepth 100000 in
theorem sameLines_any (l : List Ln) (A A2 : Option Addr) (m c c2 B B2 : Nat) (w : World) (hr : Rd w B A 3 m (lnCs l)) (hr2 : Rd w B2 A2 3 m (lnCs l)) (hm : m ≤ 1000000) :
    Calls Try.prog 20 #[.slice A m c, .slice A2 m c2] w fun e w' => e = .returned (.bool true) ∧ ∃ k, w' = w.drewN k := by
  have hl := lnRd_len hr
  have HR := hide hr
  have HR2 := hide hr2
  have HLl := hide hl
  clear hr hr2 hl
  go_enter Try.func20, Try.ntmps20
  go_upto_region 4 with fail
  go_loopw [13] (fun iv wr => ∃ i k : Nat, i ≤ m ∧ iv = .int .i64 (i : Int) ∧ wr = w.drewN k) (fun iv _ => m - (intOf iv).toNat)
  case atStart => exact ⟨0, 0, by omega, rfl, rfl⟩
  case round =>
    obtain ⟨i, kd, hi, rfl, rfl⟩ := hrel
    by_cases hlt : i < m
    · have e1 : decide (i < m) = true := by simpa using hlt
      obtain ⟨x, hx⟩ : ∃ x, l[i]? = some x := ⟨l[i]'(by rw [HLl.out]; exact hlt), List.getElem?_eq_getElem _⟩
      obtain ⟨b, off, rfl, _, hc⟩ := HR.out.2 (by omega)
      obtain ⟨b2, off2, rfl, _, hc2⟩ := HR2.out.2 (by omega)
      obtain ⟨g0, g1, g2⟩ := lnCs_at hx
      have r0 := hc _ _ g0
      have r1 := hc _ _ g1
      have r2 := hc _ _ g2
      rw [← Nat.add_assoc] at r1 r2
      have t0 := hc2 _ _ g0
      have t1 := hc2 _ _ g1
      have t2 := hc2 _ _ g2
      rw [← Nat.add_assoc] at t1 t2
      clear hc hc2 g0 g1 g2 hx
      go_upto_region 6 with fail
      go_quiet (fail)
      go_wp2_with fail
      go_roundw
      case rel => exact ⟨i + 1, kd + nq, by omega, by go_num, by first | rfl | simp [World.drewN, Nat.add_assoc]⟩
      case measure => simp [intOf]; omega
    · have e1 : decide (i < m) = false := by simpa using hlt
      go_wp2_with fail
      go_ret
      exact ⟨rfl, kd, rfl⟩
set_option maxRecDepth 100000 in
set_option maxHeartbeats 2000000 in
theorem lines_any (n : Int) (n0 : 0 ≤ n) (n1 : n ≤ 1000000) (B g : Nat) (w : World) (h : IsDeck w B g) : Calls Try.prog 17 #[.pointer (some ⟨g, 0, none⟩), .int .i64 n] w (LinesPost w B g n) := by
  have hB := h.le
  have hg := h.lt
  have H := hide h
  have wn : IntKind.i64.wrap (n + 1) = n + 1 := IntWalk.i64_in _ (by omega)
  clear h
  go_enter Try.func17, Try.ntmps17
  go_upto_region 3 with (go_at_call 44; refine (next_any _ (by omega) (by omega) B g _ H.out).mono ?_; rintro e w1 ⟨k, rfl, k0, k1, h1, kk1⟩; have H1 := hide h1; have K1 := hide kk1; clear h1 kk1)
  go_loopw [5, 6] (fun ov kv wr => ∃ (A : Option Addr) (m c : Nat) (x : Int) (l : List Ln), ov = .slice A m c ∧ kv = .int .i64 x ∧ 0 ≤ x ∧ (m : Int) + x ≤ n ∧ Hid (∀ x ∈ l, Small x) ∧ Hid (Lns wr w.heap.size A m c l) ∧ Hid (IsDeck wr B g) ∧ Hid (Keeps (· = g) w wr)) (fun _ kv _ => (intOf kv).toNat)
  case atStart => exact ⟨none, 0, 0, k, [], rfl, rfl, k0, by omega, hide (by simp), hide (Own.nil _ _ _ _), H1, K1⟩
  case round =>
    obtain ⟨A, m, c, x, l, rfl, rfl, x0, x1, HS, HO, HD, HK⟩ := hrel
    obtain ⟨wo, rfl⟩ : ∃ wo : World, wo = wr := ⟨_, rfl⟩
    clear H1 K1
    by_cases hx : 0 < x
    · have e1 : decide (0 < x) = true := by simpa using hx
      have wx : IntKind.i64.wrap (x - 1) = x - 1 := IntWalk.i64_in _ (by omega)
      go_upto_region 6 with (first
        | (go_at_call 39; refine (short_any B g _ HD.out).mono ?_; rintro e w2 ⟨s, rfl, s0, s1, h2, k2⟩; have H2 := hide h2; have K2 := hide k2; clear h2 k2)
        | (go_at_call 44; (refine (next_any _ (by omega) (by omega) B g _ H2.out).mono ?_; rintro e w3 ⟨y, rfl, y0, y1, h3, k3⟩; have H3 := hide h3; have K3 := hide (K2.out.trans k3); have wy : IntKind.u64.wrap y = y := (by rw [IntKind.wrap_u64]; omega); clear h3 k3)))
      obtain ⟨gx, hgx⟩ : ∃ gx, gx = w3.heap.size := ⟨_, rfl⟩
      obtain ⟨w4, hw4⟩ : ∃ w4, w4 = w3.alloc (.cells #[.string s, .int .u64 y, .int .u64 0] 38) := ⟨_, rfl⟩
      rw [← hw4, ← hgx]
      have hx4 : Blk w4 gx 38 (lnC ⟨s, y, 0⟩).toArray := by rw [hw4, hgx]; exact Blk.new _ _ _
      have H4 : Hid (IsDeck w4 B g) := hide (by rw [hw4]; exact H3.out.kept ((Keeps.refl (fun _ => False) _).alloc _) (fun h => h) (fun _ _ h => h))
      have K4 : Hid (Keeps (· = g) wo w4) := hide (by rw [hw4]; exact K3.out.alloc _)
      have hgg : gx ≠ g := by have := H3.out.lt; omega
      obtain ⟨c40, c41, c42⟩ := ln_cells hx4
      have hxl4 := hx4.lt
      have HX4 := hide hx4
      have HGX : Hid (wo.heap.size ≤ gx) := hide (by rw [hgx]; exact K3.out.size)
      clear hw4 hgx hx4 H3 K3
      go_region_with ((go_at_call 44; refine (next_any _ (by omega) (by omega) B g _ (H4.out.drew)).mono ?_; rintro e w5 ⟨z, rfl, z0, z1, h5, k5⟩; have H5 := hide h5; have K5 := hide (K4.out.trans (((Keeps.refl (· = g) w4).drew).trans k5)); have hx5 := HX4.out.kept (((Keeps.refl (· = g) w4).drew).trans k5) hgg; obtain ⟨c50, c51, c52⟩ := ln_cells hx5; have f50 := hx5.frozen 2; have hxl5 := hx5.lt; have HX5 := hide hx5; have wz : IntKind.u64.wrap z = z := (by rw [IntKind.wrap_u64]; omega); have wyz : IntKind.u64.wrap (y + z) = y + z := (by rw [IntKind.wrap_u64]; omega); clear h5 k5 hx5))
      all_goals
        obtain ⟨w6, hw6⟩ : ∃ w6, w6 = w5.setCell ⟨gx, 2, none⟩ (.int .u64 (y + z)) := ⟨_, rfl⟩
        rw [← hw6]
        have hx6 : Blk w6 gx 38 (lnC ⟨s, y, y + z⟩).toArray := by rw [hw6]; exact HX5.out.set 2 _
        have k56 : Keeps (· = gx) w5 w6 := by rw [hw6]; exact Keeps.setCell (S := (· = gx)) (p := ⟨gx, 2, none⟩) (Keeps.refl _ _) (.inl rfl) _
        have H6 : Hid (IsDeck w6 B g) := hide (H5.out.kept k56 (fun h => hgg h.symm) (fun b hb e => by have := H4.out.le; have := HD.out.lt; have := HGX.out; omega))
        have K6 : Hid (Keeps (· = g) wo w6) := hide (K5.out.step k56 (fun b hb e => by have := HGX.out; omega))
        obtain ⟨c60, c61, c62⟩ := ln_cells hx6
        clear hw6 hx6 k56 c50 c51 c52 f50 hxl5 c40 c41 c42
        have HO6 := hide (HO.out.kept K6.out (fun b hb e => by have := HO.out.inB hb; omega))
        go_wp2_with (at_builtin; refine wpList_app _ elemLn rfl (.tmp 29) (.tmp 31) rfl w.heap.size _ rfl (HO6.out.kept ((Keeps.refl (fun _ => False) w6).alloc _) (fun _ _ h => h)) _ (m := 1) (lnC ⟨s, y, y + z⟩) rfl (by exact Blk.rd (xs := lnC ⟨s, y, y + z⟩) (Blk.new_at _ _ _ _ (by simp)) rfl) (lnC_one _) (by simp only [maxLen]; omega) (by omega) (by have := HK.out.size; have := K6.out.size; simp; omega) ?_; intro A7 c7 w7 o7 k7 hA7; have hkA := (Keeps.refl (fun _ => False) w6).alloc (.cells #[.string s, .int .u64 y, .int .u64 (y + z)] 38); have O7 := hide o7; have K7 := hide (((HK.out.trans K6.out).step0 hkA).step k7 (fun b hb h => by have := HO.out.inB h; omega)); have H7 := hide ((H6.out.kept hkA (fun h => h) (fun _ _ h => h)).kept k7 (fun h => by have := HO.out.inB h; omega) (fun b hb h => by have := HO.out.inB h; omega)); clear o7 k7 hA7 hkA)
        have HS7 : Hid (∀ v ∈ l ++ [⟨s, y, y + z⟩], Small v) := hide (by
          intro v hv
          rcases List.mem_append.1 hv with hv | hv
          · exact HS.out v hv
          · rw [List.mem_singleton.1 hv]; refine ⟨y0, ?_, ?_⟩ <;> (dsimp only; omega))
        have O8 : Hid (Lns w7 w.heap.size A7 (m + 1) c7 (l ++ [⟨s, y, y + z⟩])) := hide (by
          have := O7.out
          rw [← lnCs1, ← lnCs_app] at this
          exact this)
        clear O7
        go_wp2_with fail
        go_roundw
        case rel => exact ⟨A7, m + 1, c7, x - 1, _, rfl, rfl, by omega, by push_cast; omega, HS7, O8, H7, K7⟩
        case measure => simp [intOf]; omega
    · have e1 : decide (0 < x) = false := by simpa using hx
      go_wp2_with fail
      go_ret
      exact ⟨A, m, c, l, rfl, by omega, HS.out, HO.out, HD.out, HK.out⟩
end Go.Proofs.Ytmbgnekilgobaaa
