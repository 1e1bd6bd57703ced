/-
  CountminNew: which sketches can be made, and what a nil sketch returns; the walk. No conditions beyond those of the statement.
-/
import Derived.Test.YtaiopdipldaimaaLaw16
import Derived.Test.YtaiopdipldaimaaCmR
set_option linter.unusedVariables false
set_option linter.unusedSimpArgs false
namespace Go.Proofs.Ytaiopdipldaimaa
open Go.RowKit

theorem nil_add (s : ByteArray) (wt : Int) (w : World) : Calls Try.prog 18 #[.pointer none, .string s, .int .u64 wt] w fun e w' => e = .returned (.int .i64 8) ∧ w = w' := by
  go_enter Try.func18, Try.ntmps18
  go_wp2_with fail
  go_ret
  exact ⟨rfl, rfl⟩
theorem nil_estimate (s : ByteArray) (w : World) : Calls Try.prog 19 #[.pointer none, .string s] w fun e w' => e = .returned (.int .u64 0) ∧ w = w' := by
  go_enter Try.func19, Try.ntmps19
  go_wp2_with fail
  go_ret
  exact ⟨rfl, rfl⟩
theorem nil_total (w : World) : Calls Try.prog 20 #[.pointer none] w fun e w' => e = .returned (.int .u64 0) ∧ w = w' := by
  go_enter Try.func20, Try.ntmps20
  go_wp2_with fail
  go_ret
  exact ⟨rfl, rfl⟩
theorem nil_rows (w : World) : Calls Try.prog 33 #[.pointer none] w fun e w' => e = .returned (.slice none 0 0) ∧ w = w' := by
  go_enter Try.func33, Try.ntmps33
  go_wp2_with fail
  go_ret
  exact ⟨rfl, rfl⟩

namespace countminNew
set_option maxRecDepth 100000 in
set_option maxHeartbeats 2000000 in
theorem walk (w : World) (depth : Int) (d0 : -9223372036854775808 ≤ depth) (d1 : depth < 9223372036854775808) (width : Int) (w0 : -9223372036854775808 ≤ width) (w1 : width < 9223372036854775808)
    (A2 : Option Addr) (n2 c2 : Nat) (ts : List Int) (hr2 : Rd w w.heap.size A2 1 n2 (ts.map (.int .u64))) (ht : ∀ z ∈ ts, 0 ≤ z ∧ z < 18446744073709551616) (hn2 : n2 * 8 ≤ 140737488351232) (hc2 : n2 ≤ c2)
    (A3 : Option Addr) (n3 c3 : Nat) (dz : List Int) (hr3 : Rd w w.heap.size A3 1 n3 (dz.map (.int .i64))) (hz : ∀ z ∈ dz, -9223372036854775808 ≤ z ∧ z < 9223372036854775808) (hn3 : n3 * 8 ≤ 140737488351232) (hc3 : n3 ≤ c3) :
    Calls Try.prog 7 #[.int .i64 depth, .int .i64 width, .slice A2 n2 c2, .slice A3 n3 c3] w fun e w' => e = .returned (.bool true) ∧ Below w.heap.size w w' := by
  by_cases hg : 40 < n2
  · clear hr2 ht hr3 hz
    go_enter Try.func7, Try.ntmps7
    go_wp2_with fail
    refine (awake16 _).mono ?_
    rintro e w1 ⟨rfl, k1⟩
    go_wp2_with fail
    go_ret
    exact ⟨rfl, k1.done⟩
  have HT0 := hide hr2
  have HTB := hide ht
  have HD := hide (new_deck A3 n3 c3 dz w.heap.size w (Nat.le_refl _) hr3 hz (by omega))
  clear hr2 ht hr3 hz
  go_enter Try.func7, Try.ntmps7
  go_wp2_with fail
  refine HD.out.mono ?_
  rintro e w1 ⟨rfl, hd1, k1⟩
  have K1 := hide k1
  clear k1 HD
  go_wp2_with fail
  refine (table_any w.heap.size _ _ hd1).mono ?_
  rintro e w2 ⟨b, zs, rfl, hzl, hzb, hb, hbs, hd2, k2⟩
  have K2 := hide (K1.out.step k2 (fun j hj h => by omega))
  have TT0 := hide (Blk.rd hb (show (zs.map (Value.int .u64)).length = 16 * 1 by simp [hzl]))
  have HZB := hide hzb
  clear hb hzl hzb hd1 hd2 k2
  go_wp2_with fail
  have hx := wf_i64 (wf_bits .and .i64 depth 7)
  have hy := wf_i64 (wf_bits .and .i64 width 511)
  obtain ⟨x, hx'⟩ : ∃ x, x = bits .and .i64 depth 7 := ⟨_, rfl⟩
  obtain ⟨y, hy'⟩ : ∃ y, y = bits .and .i64 width 511 := ⟨_, rfl⟩
  rw [← hx', ← hy']
  rw [← hx'] at hx
  rw [← hy'] at hy
  clear hx' hy'
  obtain ⟨W, hW⟩ : ∃ W, W = w2.alloc (.cells #[.int .i64 depth, .int .i64 width, .int .i64 x, .int .i64 y, .int .i64 2, .int .i64 width] 63) := ⟨_, rfl⟩
  rw [← hW]
  have HB0 : Hid (Blk W w2.heap.size 63 #[.int .i64 depth, .int .i64 width, .int .i64 x, .int .i64 y, .int .i64 2, .int .i64 width]) := by rw [hW]; exact Blk.new _ _ _
  have KW : Hid (Keeps (fun _ => False) w W) := by rw [hW]; exact K2.out.alloc _
  have HT := hide (HT0.out.kept KW.out (fun _ _ h => h))
  have TT : Hid (Rd W w2.heap.size (some ⟨b, 0, none⟩) 1 16 (zs.map (.int .u64))) := by rw [hW]; exact TT0.out.kept ((Keeps.refl (fun _ => False) w2).alloc _) (fun _ _ h => h)
  clear hW K1 K2 TT0 HT0
  go_loopw [40] (fun i wr => ∃ k : Nat, k ≤ 3 ∧ i = .int .i64 k ∧ Blk wr w2.heap.size 63 #[.int .i64 depth, .int .i64 width, .int .i64 x, .int .i64 y, .int .i64 2, .int .i64 width] ∧ Keeps (fun _ => False) W wr) (fun i _ => 3 - (intOf i).toNat)
  case atStart => exact ⟨0, by omega, rfl, HB0.out, Keeps.refl _ _⟩
  case round =>
    obtain ⟨k, hk, rfl, hbk, kp⟩ := hrel
    have h0 := hbk.cell 0
    have h1 := hbk.cell 1
    have h2 := hbk.cell 2
    have h3 := hbk.cell 3
    have h4 := hbk.cell 4
    have h5 := hbk.cell 5
    simp only [List.getElem?_toArray, List.getElem?_cons_zero, List.getElem?_cons_succ] at h0 h1 h2 h3 h4 h5
    have hk4 : k = 0 ∨ k = 1 ∨ k = 2 ∨ k = 3 := by omega
    rcases hk4 with rfl | rfl | rfl | rfl
    ·
      go_wp2_with fail
      refine (new_all (c := c2) (depth) (width) 1 (by omega) (by omega) (by omega) (by omega) ts HTB.out (by exact HT.out.kept (kp.alloc _) (fun _ _ h => h))).mono ?_
      rintro e w3 ⟨p1, rfl, hp1, k3⟩
      have K3 := hide ((kp.alloc _).trans k3)
      have B3 := hide ((Blk.new wr _ _).kept k3 (fun h => h))
      have A3 := hide ((hbk.alloc _).kept k3 (fun h => h))
      have hp1' := hp1
      obtain ⟨⟨a30, a31⟩, _, a3l⟩ := B3.out.two
      clear k3
      go_wp2_with fail
      refine (rnew_all (c := c2) (depth) (width) 1 (by omega) (by omega) (by omega) (by omega) ts HTB.out (by exact HT.out.kept K3.out (fun _ _ h => h))).mono ?_
      rintro e w4 ⟨p2, rfl, hp2, k4⟩
      have K4 := hide (K3.out.trans k4)
      have B4 := hide (B3.out.kept k4 (fun h => h))
      have A4 := hide (A3.out.kept k4 (fun h => h))
      obtain ⟨⟨a40, a41⟩, _, a4l⟩ := B4.out.two
      clear k4 K3 B3 A3 a30 a31
      go_wp2_with fail
      refine (new_all (c := 16) (depth) (width) 1 (by omega) (by omega) (by omega) (by omega) zs HZB.out (by exact TT.out.kept (K4.out) (fun _ _ h => h))).mono ?_
      rintro e w5 ⟨p3, rfl, hp3, k5⟩
      have K5 := hide (K4.out.trans k5)
      have B5 := hide (B4.out.kept k5 (fun h => h))
      have A5 := hide (A4.out.kept k5 (fun h => h))
      obtain ⟨⟨a50, a51⟩, _, a5l⟩ := B5.out.two
      clear k5 K4 B4 A4 a40 a41
      go_wp2_with fail
      refine (rnew_all (c := 16) (depth) (width) 1 (by omega) (by omega) (by omega) (by omega) zs HZB.out (by exact TT.out.kept (K5.out) (fun _ _ h => h))).mono ?_
      rintro e w6 ⟨p4, rfl, hp4, k6⟩
      have K6 := hide (K5.out.trans k6)
      have A6 := hide (A5.out.kept k6 (fun h => h))
      clear k6 K5 B5 A5 a50 a51
      generalize newE (depth) (width) n2 = E1 at *
      generalize newE (depth) (width) 16 = E2 at *
      have hq1 : (E1 = 0 ∧ ∃ a, p1 = some a) ∨ (p1 = none ∧ (E1 == 0) = false ∧ (E1 != 0) = true) := by
        by_cases h : E1 = 0
        · left; rw [h] at hp1; cases p1 with
          | none => simp at hp1
          | some a => exact ⟨h, a, rfl⟩
        · right; refine ⟨?_, by simpa using h, by simpa using h⟩
          cases p1 with
          | none => rfl
          | some a => simp [h] at hp1
      have hq3 : (E2 = 0 ∧ ∃ a, p3 = some a) ∨ (p3 = none ∧ (E2 == 0) = false ∧ (E2 != 0) = true) := by
        by_cases h : E2 = 0
        · left; rw [h] at hp3; cases p3 with
          | none => simp at hp3
          | some a => exact ⟨h, a, rfl⟩
        · right; refine ⟨?_, by simpa using h, by simpa using h⟩
          cases p3 with
          | none => rfl
          | some a => simp [h] at hp3
      clear hp1 hp1' hp2 hp3 hp4
      rcases hq1 with ⟨rfl, ad1, rfl⟩ | ⟨rfl, e11, e12⟩ <;> rcases hq3 with ⟨rfl, ad3, rfl⟩ | ⟨rfl, e31, e32⟩
      all_goals
        go_wp2_with fail
        go_roundw
        case rel => exact ⟨1, by omega, by go_num, A6.out, K6.out⟩
        case measure => simp [intOf]
    ·
      go_wp2_with fail
      refine (new_all (c := c2) (x) (y) 1 (by omega) (by omega) (by omega) (by omega) ts HTB.out (by exact HT.out.kept (kp.alloc _) (fun _ _ h => h))).mono ?_
      rintro e w3 ⟨p1, rfl, hp1, k3⟩
      have K3 := hide ((kp.alloc _).trans k3)
      have B3 := hide ((Blk.new wr _ _).kept k3 (fun h => h))
      have A3 := hide ((hbk.alloc _).kept k3 (fun h => h))
      have hp1' := hp1
      obtain ⟨⟨a30, a31⟩, _, a3l⟩ := B3.out.two
      clear k3
      go_wp2_with fail
      refine (rnew_all (c := c2) (x) (y) 1 (by omega) (by omega) (by omega) (by omega) ts HTB.out (by exact HT.out.kept K3.out (fun _ _ h => h))).mono ?_
      rintro e w4 ⟨p2, rfl, hp2, k4⟩
      have K4 := hide (K3.out.trans k4)
      have B4 := hide (B3.out.kept k4 (fun h => h))
      have A4 := hide (A3.out.kept k4 (fun h => h))
      obtain ⟨⟨a40, a41⟩, _, a4l⟩ := B4.out.two
      clear k4 K3 B3 A3 a30 a31
      go_wp2_with fail
      refine (new_all (c := 16) (x) (y) 1 (by omega) (by omega) (by omega) (by omega) zs HZB.out (by exact TT.out.kept (K4.out) (fun _ _ h => h))).mono ?_
      rintro e w5 ⟨p3, rfl, hp3, k5⟩
      have K5 := hide (K4.out.trans k5)
      have B5 := hide (B4.out.kept k5 (fun h => h))
      have A5 := hide (A4.out.kept k5 (fun h => h))
      obtain ⟨⟨a50, a51⟩, _, a5l⟩ := B5.out.two
      clear k5 K4 B4 A4 a40 a41
      go_wp2_with fail
      refine (rnew_all (c := 16) (x) (y) 1 (by omega) (by omega) (by omega) (by omega) zs HZB.out (by exact TT.out.kept (K5.out) (fun _ _ h => h))).mono ?_
      rintro e w6 ⟨p4, rfl, hp4, k6⟩
      have K6 := hide (K5.out.trans k6)
      have A6 := hide (A5.out.kept k6 (fun h => h))
      clear k6 K5 B5 A5 a50 a51
      generalize newE (x) (y) n2 = E1 at *
      generalize newE (x) (y) 16 = E2 at *
      have hq1 : (E1 = 0 ∧ ∃ a, p1 = some a) ∨ (p1 = none ∧ (E1 == 0) = false ∧ (E1 != 0) = true) := by
        by_cases h : E1 = 0
        · left; rw [h] at hp1; cases p1 with
          | none => simp at hp1
          | some a => exact ⟨h, a, rfl⟩
        · right; refine ⟨?_, by simpa using h, by simpa using h⟩
          cases p1 with
          | none => rfl
          | some a => simp [h] at hp1
      have hq3 : (E2 = 0 ∧ ∃ a, p3 = some a) ∨ (p3 = none ∧ (E2 == 0) = false ∧ (E2 != 0) = true) := by
        by_cases h : E2 = 0
        · left; rw [h] at hp3; cases p3 with
          | none => simp at hp3
          | some a => exact ⟨h, a, rfl⟩
        · right; refine ⟨?_, by simpa using h, by simpa using h⟩
          cases p3 with
          | none => rfl
          | some a => simp [h] at hp3
      clear hp1 hp1' hp2 hp3 hp4
      rcases hq1 with ⟨rfl, ad1, rfl⟩ | ⟨rfl, e11, e12⟩ <;> rcases hq3 with ⟨rfl, ad3, rfl⟩ | ⟨rfl, e31, e32⟩
      all_goals
        go_wp2_with fail
        go_roundw
        case rel => exact ⟨2, by omega, by go_num, A6.out, K6.out⟩
        case measure => simp [intOf]
    ·
      go_wp2_with fail
      refine (new_all (c := c2) (2) (width) 1 (by omega) (by omega) (by omega) (by omega) ts HTB.out (by exact HT.out.kept (kp.alloc _) (fun _ _ h => h))).mono ?_
      rintro e w3 ⟨p1, rfl, hp1, k3⟩
      have K3 := hide ((kp.alloc _).trans k3)
      have B3 := hide ((Blk.new wr _ _).kept k3 (fun h => h))
      have A3 := hide ((hbk.alloc _).kept k3 (fun h => h))
      have hp1' := hp1
      obtain ⟨⟨a30, a31⟩, _, a3l⟩ := B3.out.two
      clear k3
      go_wp2_with fail
      refine (rnew_all (c := c2) (2) (width) 1 (by omega) (by omega) (by omega) (by omega) ts HTB.out (by exact HT.out.kept K3.out (fun _ _ h => h))).mono ?_
      rintro e w4 ⟨p2, rfl, hp2, k4⟩
      have K4 := hide (K3.out.trans k4)
      have B4 := hide (B3.out.kept k4 (fun h => h))
      have A4 := hide (A3.out.kept k4 (fun h => h))
      obtain ⟨⟨a40, a41⟩, _, a4l⟩ := B4.out.two
      clear k4 K3 B3 A3 a30 a31
      go_wp2_with fail
      refine (new_all (c := 16) (2) (width) 1 (by omega) (by omega) (by omega) (by omega) zs HZB.out (by exact TT.out.kept (K4.out) (fun _ _ h => h))).mono ?_
      rintro e w5 ⟨p3, rfl, hp3, k5⟩
      have K5 := hide (K4.out.trans k5)
      have B5 := hide (B4.out.kept k5 (fun h => h))
      have A5 := hide (A4.out.kept k5 (fun h => h))
      obtain ⟨⟨a50, a51⟩, _, a5l⟩ := B5.out.two
      clear k5 K4 B4 A4 a40 a41
      go_wp2_with fail
      refine (rnew_all (c := 16) (2) (width) 1 (by omega) (by omega) (by omega) (by omega) zs HZB.out (by exact TT.out.kept (K5.out) (fun _ _ h => h))).mono ?_
      rintro e w6 ⟨p4, rfl, hp4, k6⟩
      have K6 := hide (K5.out.trans k6)
      have A6 := hide (A5.out.kept k6 (fun h => h))
      clear k6 K5 B5 A5 a50 a51
      generalize newE (2) (width) n2 = E1 at *
      generalize newE (2) (width) 16 = E2 at *
      have hq1 : (E1 = 0 ∧ ∃ a, p1 = some a) ∨ (p1 = none ∧ (E1 == 0) = false ∧ (E1 != 0) = true) := by
        by_cases h : E1 = 0
        · left; rw [h] at hp1; cases p1 with
          | none => simp at hp1
          | some a => exact ⟨h, a, rfl⟩
        · right; refine ⟨?_, by simpa using h, by simpa using h⟩
          cases p1 with
          | none => rfl
          | some a => simp [h] at hp1
      have hq3 : (E2 = 0 ∧ ∃ a, p3 = some a) ∨ (p3 = none ∧ (E2 == 0) = false ∧ (E2 != 0) = true) := by
        by_cases h : E2 = 0
        · left; rw [h] at hp3; cases p3 with
          | none => simp at hp3
          | some a => exact ⟨h, a, rfl⟩
        · right; refine ⟨?_, by simpa using h, by simpa using h⟩
          cases p3 with
          | none => rfl
          | some a => simp [h] at hp3
      clear hp1 hp1' hp2 hp3 hp4
      rcases hq1 with ⟨rfl, ad1, rfl⟩ | ⟨rfl, e11, e12⟩ <;> rcases hq3 with ⟨rfl, ad3, rfl⟩ | ⟨rfl, e31, e32⟩
      all_goals
        go_wp2_with fail
        go_roundw
        case rel => exact ⟨3, by omega, by go_num, A6.out, K6.out⟩
        case measure => simp [intOf]
    · have KP := hide (KW.out.trans kp)
      clear kp hbk h0 h1 h2 h3 h4 h5
      go_wp2_with fail
      refine (nil_add _ _ _).mono ?_
      rintro e w3 ⟨rfl, rfl⟩
      go_wp2_with fail
      refine (nil_estimate _ _).mono ?_
      rintro e w3 ⟨rfl, rfl⟩
      go_wp2_with fail
      refine (nil_total _).mono ?_
      rintro e w3 ⟨rfl, rfl⟩
      go_wp2_with fail
      refine (nil_rows _).mono ?_
      rintro e w3 ⟨rfl, rfl⟩
      go_wp2_with fail
      refine (awake16 _).mono ?_
      rintro e w3 ⟨rfl, k3⟩
      go_wp2_with fail
      go_ret
      exact ⟨rfl, (KP.out.trans k3).done⟩
end countminNew
end Go.Proofs.Ytaiopdipldaimaa
