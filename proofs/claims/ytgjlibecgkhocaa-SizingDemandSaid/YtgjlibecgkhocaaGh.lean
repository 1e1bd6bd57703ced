/-
  The law's spoilt: a configuration of which one field is changed. No conditions beyond those of the statement.
-/
import Derived.Test.YtgjlibecgkhocaaGk
import Derived.Test.YtgjlibecgkhocaaAs
import Derived.Deep.CutRange
import Derived.Deep.CutBlock
import Derived.BigRegion
set_option linter.unusedVariables false
set_option linter.unusedSimpArgs false
namespace Go.Proofs.Ytgjlibecgkhocaa
open Go.RowKit Cfp
def wf64 (n : Int) : Prop := -9223372036854775808 ≤ n ∧ n < 9223372036854775808
theorem i64_and15s (n : Int) : bits .and .i64 n 15 = n % 16 := by
  have h15 : (BitVec.ofInt 64 15).toNat = 2 ^ 4 - 1 := by decide
  have key : (BitVec.ofInt 64 n &&& BitVec.ofInt 64 15).toNat = (n % ((2 ^ 64 : Nat) : Int)).toNat % 2 ^ 4 := by
    rw [BitVec.toNat_and, BitVec.toNat_ofInt, h15, Nat.and_two_pow_sub_one_eq_mod]
  show IntKind.i64.wrap ((BitVec.ofInt 64 n &&& BitVec.ofInt 64 15).toNat : Nat) = n % 16
  rw [key, IntKind.wrap_i64]
  omega
theorem i64_and7s (n : Int) : bits .and .i64 n 7 = n % 8 := by
  have h15 : (BitVec.ofInt 64 7).toNat = 2 ^ 3 - 1 := by decide
  have key : (BitVec.ofInt 64 n &&& BitVec.ofInt 64 7).toNat = (n % ((2 ^ 64 : Nat) : Int)).toNat % 2 ^ 3 := by
    rw [BitVec.toNat_and, BitVec.toNat_ofInt, h15, Nat.and_two_pow_sub_one_eq_mod]
  show IntKind.i64.wrap ((BitVec.ofInt 64 n &&& BitVec.ofInt 64 7).toNat : Nat) = n % 8
  rw [key, IntKind.wrap_i64]
  omega
/-- what spoilt gives -/
def Spoilts (w : World) (n0 : Nat) (c : Cfg) (e : Ending) (w' : World) : Prop :=
  ∃ (c' : Cfg) (l' : List (Int × Int)) (C' : Option Addr) (k' : Nat) (T' : Option Addr) (q' j' : Nat), e = .returned (Value.agg #[.int .i64 c'.length, .int .i64 c'.lateness, .int .i64 c'.windows, .int .i64 c'.shards, .int .i64 c'.spread, .int .i64 c'.queue, .int .i64 c'.mode, .int .i64 c'.slots, .int .i64 c'.exact_, .int .u64 c'.promote, .int .i64 c'.depth, .int .i64 c'.width, .int .i64 c'.top, .int .i64 c'.key, .slice C' n0 k', .slice T' q' j', .int .u64 c'.seed]) ∧ c'.promote = c.promote ∧ c'.seed = c.seed ∧ Wide l' ∧ Own w' w.heap.size 46 2 C' n0 k' (prs l') ∧ (q' ≤ 16 ∧ 16 ≤ j') ∧ Keeps (fun _ => False) w w'
/-- behind the switch -/
def SpMid (w : World) (g3 g6 n0 : Nat) (c : Cfg) (wx : World) : Prop :=
  ∃ (c' : Cfg) (l' : List (Int × Int)) (C' : Option Addr) (k' : Nat) (T' : Option Addr) (q' j' : Nat), Blk wx g3 28 #[.int .i64 c'.length, .int .i64 c'.lateness, .int .i64 c'.windows, .int .i64 c'.shards, .int .i64 c'.spread, .int .i64 c'.queue, .int .i64 c'.mode, .int .i64 c'.slots, .int .i64 c'.exact_, .int .u64 c'.promote, .int .i64 c'.depth, .int .i64 c'.width, .int .i64 c'.top, .int .i64 c'.key, .slice C' n0 k', .slice T' q' j', .int .u64 c'.seed] ∧ (∃ zs, zs.size = 17 ∧ Blk wx g6 28 zs) ∧ c'.promote = c.promote ∧ c'.seed = c.seed ∧ Wide l' ∧ Own wx w.heap.size 46 2 C' n0 k' (prs l') ∧ (q' ≤ 16 ∧ 16 ≤ j') ∧ Keeps (fun _ => False) w wx
set_option maxRecDepth 1000000 in
set_option maxHeartbeats 4000000 in
theorem spoilt_any (w : World) (c : Cfg) (l : List (Int × Int)) (hw : Wide l) (C T : Option Addr) (n0 k q j B : Nat) (hr : Rd w B C 2 n0 (prs l)) (hB : B ≤ w.heap.size) (h1 : 1 ≤ n0) (h8 : n0 ≤ 8) (hq : q ≤ 16) (hj : 16 ≤ j) (at_ n : Int) (hn : wf64 n) :
    Calls Try.prog 24 #[Value.agg #[.int .i64 c.length, .int .i64 c.lateness, .int .i64 c.windows, .int .i64 c.shards, .int .i64 c.spread, .int .i64 c.queue, .int .i64 c.mode, .int .i64 c.slots, .int .i64 c.exact_, .int .u64 c.promote, .int .i64 c.depth, .int .i64 c.width, .int .i64 c.top, .int .i64 c.key, .slice C n0 k, .slice T q j, .int .u64 c.seed], .int .i64 at_, .int .i64 n] w (Spoilts w n0 c) := by
  have hlen : l.length = n0 := by have := hr.1; rw [prs_len] at this; omega
  obtain ⟨g3, hg3⟩ : ∃ g, g = w.heap.size := ⟨_, rfl⟩
  obtain ⟨g6, hg6⟩ : ∃ g, g = w.heap.size + 1 := ⟨_, rfl⟩
  obtain ⟨w2, hw2⟩ : ∃ x, x = (w.alloc (.cells #[.int .i64 c.length, .int .i64 c.lateness, .int .i64 c.windows, .int .i64 c.shards, .int .i64 c.spread, .int .i64 c.queue, .int .i64 c.mode, .int .i64 c.slots, .int .i64 c.exact_, .int .u64 c.promote, .int .i64 c.depth, .int .i64 c.width, .int .i64 c.top, .int .i64 c.key, .slice C n0 k, .slice T q j, .int .u64 c.seed] 28)).alloc (.cells #[.int .i64 0, .int .i64 0, .int .i64 0, .int .i64 0, .int .i64 0, .int .i64 0, .int .i64 0, .int .i64 0, .int .i64 0, .int .u64 0, .int .i64 0, .int .i64 0, .int .i64 0, .int .i64 0, .slice none 0 0, .slice none 0 0, .int .u64 0] 28) := ⟨_, rfl⟩
  have k2 : Keeps (fun _ => False) w w2 := by rw [hw2]; exact ((Keeps.refl _ _).alloc _).alloc _
  have B3 : Hid (Blk w2 g3 28 #[.int .i64 c.length, .int .i64 c.lateness, .int .i64 c.windows, .int .i64 c.shards, .int .i64 c.spread, .int .i64 c.queue, .int .i64 c.mode, .int .i64 c.slots, .int .i64 c.exact_, .int .u64 c.promote, .int .i64 c.depth, .int .i64 c.width, .int .i64 c.top, .int .i64 c.key, .slice C n0 k, .slice T q j, .int .u64 c.seed]) := hide (by rw [hw2, hg3]; exact (Blk.new _ _ _).alloc _)
  have B6 : Hid (Blk w2 g6 28 #[.int .i64 0, .int .i64 0, .int .i64 0, .int .i64 0, .int .i64 0, .int .i64 0, .int .i64 0, .int .i64 0, .int .i64 0, .int .u64 0, .int .i64 0, .int .i64 0, .int .i64 0, .int .i64 0, .slice none 0 0, .slice none 0 0, .int .u64 0]) := hide (by rw [hw2, hg6]; exact Blk.new_at _ _ _ _ (by simp))
  have HR := hide (hr.kept k2 (fun _ _ h => h))
  have hBw : B ≤ w2.heap.size := Nat.le_trans hB k2.size
  have hg36 : g3 < g6 ∧ w.heap.size ≤ g3 := by omega
  have K2 := hide k2
  have HW := hide hw
  have HLn := hide hlen
  have HG3 := hide hg3
  have HG6 := hide hg6
  have HW2 := hide hw2
  clear hr hw hlen hg3 hg6 hw2 k2
  go_enter Try.func24, Try.ntmps24
  go_upto_region 1 with fail
  rw [← HG6.out, ← HG3.out, ← HW2.out]
  clear HG6 HG3 HW2
  trace "R1"
  have q14 : w2.cell? ⟨g3, 14, none⟩ = some (.slice C n0 k) := B3.out.cell 14
  have hg3l := B3.out.lt
  go_upto_region 2 with (at_builtin; refine wpList_app _ elemCk rfl (.tmp 9) (.tmp 11) rfl w2.heap.size _ rfl (Own.new0 _ _ 46 2 _ (by simp) (by omega)) _ (m := n0) _ rfl (HR.out.kept ((Keeps.refl (fun _ => False) w2).alloc _) (fun _ _ h => h)) (prs_oneS l) (by simp only [maxLen]; omega) (by omega) (by simp) ?_; intro A7 c7 w7 o7 k7 _; rw [Nat.zero_add, List.nil_append] at o7; have O7 := hide o7; have K7 := hide (((Keeps.refl (fun _ => False) w2).alloc (.cells #[] 46)).step k7 (fun k hk h => by have := (inB_some _ _ _).1 h; omega)); have q14 := (B3.out.kept K7.out (fun h => h)).cell 14; have f14 := (B3.out.kept K7.out (fun h => h)).frozen 14; have hg3l := (B3.out.kept K7.out (fun h => h)).lt; clear o7 k7)
  trace "R2"
  have kS : Keeps (· = g3) w7 (w7.setCell ⟨g3, 14, none⟩ (.slice A7 n0 c7)) := Keeps.setCell (S := (· = g3)) (p := ⟨g3, 14, none⟩) (Keeps.refl _ _) (.inl rfl) _
  have B38 : Hid (Blk (w7.setCell ⟨g3, 14, none⟩ (.slice A7 n0 c7)) g3 28 #[.int .i64 c.length, .int .i64 c.lateness, .int .i64 c.windows, .int .i64 c.shards, .int .i64 c.spread, .int .i64 c.queue, .int .i64 c.mode, .int .i64 c.slots, .int .i64 c.exact_, .int .u64 c.promote, .int .i64 c.depth, .int .i64 c.width, .int .i64 c.top, .int .i64 c.key, .slice A7 n0 c7, .slice T q j, .int .u64 c.seed]) := hide ((B3.out.kept K7.out (fun h => h)).set 14 _)
  have B68 := hide ((B6.out.kept K7.out (fun h => h)).kept kS (by omega))
  have O8 := hide (O7.out.kept kS (fun b hb e => by have := (O7.out.inB hb).1; have := B3.out.lt; omega))
  have K8 := hide (((K2.out.trans K7.out)).step kS (fun b hb e => by omega))
  have hww2 := K2.out.size
  have hg32 := B3.out.lt
  have hg62 := B6.out.lt
  clear kS O7 q14 f14 hg3l K7 K2 B3 B6 HR
  generalize w7.setCell _ _ = w8 at *
  obtain ⟨gf, hgf⟩ : ∃ x, x = w8.heap.size := ⟨_, rfl⟩
  obtain ⟨w9, hw9⟩ : ∃ x, x = w8.alloc (.cells #[.pointer (some ⟨g3, 0, none⟩), .pointer (some ⟨g3, 1, none⟩), .pointer (some ⟨g3, 2, none⟩), .pointer (some ⟨g3, 3, none⟩), .pointer (some ⟨g3, 4, none⟩), .pointer (some ⟨g3, 5, none⟩), .pointer (some ⟨g3, 6, none⟩), .pointer (some ⟨g3, 7, none⟩), .pointer (some ⟨g3, 8, none⟩), .pointer (some ⟨g3, 10, none⟩), .pointer (some ⟨g3, 11, none⟩), .pointer (some ⟨g3, 12, none⟩), .pointer (some ⟨g3, 13, none⟩)] 52) := ⟨_, rfl⟩
  have k9 : Keeps (fun _ => False) w8 w9 := by rw [hw9]; exact (Keeps.refl _ _).alloc _
  have F9 : Hid (Blk w9 gf 52 #[.pointer (some ⟨g3, 0, none⟩), .pointer (some ⟨g3, 1, none⟩), .pointer (some ⟨g3, 2, none⟩), .pointer (some ⟨g3, 3, none⟩), .pointer (some ⟨g3, 4, none⟩), .pointer (some ⟨g3, 5, none⟩), .pointer (some ⟨g3, 6, none⟩), .pointer (some ⟨g3, 7, none⟩), .pointer (some ⟨g3, 8, none⟩), .pointer (some ⟨g3, 10, none⟩), .pointer (some ⟨g3, 11, none⟩), .pointer (some ⟨g3, 12, none⟩), .pointer (some ⟨g3, 13, none⟩)]) := hide (by rw [hw9, hgf]; exact Blk.new _ _ _)
  have B39 := hide (B38.out.kept k9 (fun h => h))
  have B69 := hide (B68.out.kept k9 (fun h => h))
  have O9 := hide (O8.out.kept k9 (fun _ _ h => h))
  have K9 := hide (K8.out.trans k9)
  have HGF := hide hgf
  have HW9 := hide hw9
  clear k9 hgf hw9 B38 B68 O8 K8
  have h15 := i64_and15s
  have h7 := i64_and7s
  go_upto_block 0 with fail
  rw [← HGF.out, ← HW9.out]
  clear HGF HW9
  trace "B0"
  have hz6 : ∃ zs : Array Value, zs.size = 17 ∧ Blk w9 g6 28 zs := ⟨_, rfl, B69.out⟩
  have HZ6 := hide hz6
  clear hz6 B69
  obtain ⟨kk, hkk, hk16⟩ : ∃ kk : Nat, at_ % 16 = (kk : Int) ∧ kk < 16 := ⟨(at_ % 16).toNat, by omega, by omega⟩
  rw [hkk]
  clear hkk
  go_cut [] from 36 to 76 (fun wx => SpMid w g3 g6 n0 c wx)
  case first =>
    have Fld : Hid (∀ (o : Nat) (c' : Cfg), (#[.int .i64 c.length, .int .i64 c.lateness, .int .i64 c.windows, .int .i64 c.shards, .int .i64 c.spread, .int .i64 c.queue, .int .i64 c.mode, .int .i64 c.slots, .int .i64 c.exact_, .int .u64 c.promote, .int .i64 c.depth, .int .i64 c.width, .int .i64 c.top, .int .i64 c.key, .slice A7 n0 c7, .slice T q j, .int .u64 c.seed] : Array Value).setIfInBounds o (.int .i64 n) = #[.int .i64 c'.length, .int .i64 c'.lateness, .int .i64 c'.windows, .int .i64 c'.shards, .int .i64 c'.spread, .int .i64 c'.queue, .int .i64 c'.mode, .int .i64 c'.slots, .int .i64 c'.exact_, .int .u64 c'.promote, .int .i64 c'.depth, .int .i64 c'.width, .int .i64 c'.top, .int .i64 c'.key, .slice A7 n0 c7, .slice T q j, .int .u64 c'.seed] → c'.promote = c.promote → c'.seed = c.seed → SpMid w g3 g6 n0 c (w9.setCell ⟨g3, o, none⟩ (.int .i64 n))) := hide (fun o c' he hp hs => by
      have kS := keepsOne w9 g3 o (.int .i64 n)
      obtain ⟨zs, hz, hb⟩ := HZ6.out
      refine ⟨c', l, A7, c7, T, q, j, ?_, ⟨zs, hz, hb.kept kS (by omega)⟩, hp, hs, HW.out, (O9.out.kept kS (fun b hb e => ?_)).base_le (by omega), ⟨hq, hj⟩, K9.out.step kS (fun b hb e => by omega)⟩
      · have := B39.out.set o (.int .i64 n); rw [he] at this; exact this
      · have := (O9.out.inB hb).1; omega)
    by_cases h13 : kk < 13
    · have e0 : decide ((kk : Int) < 13) = true := by simp; omega
      have hkI : (kk : Int) < 13 := by omega
      have hk0 : (0 : Int) ≤ (kk : Int) := by omega
      have hgfl := F9.out.lt
      have hg3l := B39.out.lt
      rcases (by omega : kk = 0 ∨ kk = 1 ∨ kk = 2 ∨ kk = 3 ∨ kk = 4 ∨ kk = 5 ∨ kk = 6 ∨ kk = 7 ∨ kk = 8 ∨ kk = 9 ∨ kk = 10 ∨ kk = 11 ∨ kk = 12) with rfl | rfl | rfl | rfl | rfl | rfl | rfl | rfl | rfl | rfl | rfl | rfl | rfl
      · have p0 : w9.cell? ⟨gf, 0, none⟩ = some (.pointer (some ⟨g3, 0, none⟩)) := F9.out.cell 0
        have v0 : w9.cell? ⟨g3, 0, none⟩ = some (.int .i64 c.length) := B39.out.cell 0
        have fz := B39.out.frozen 0
        have HF := hide (Fld.out 0 { c with length := n } rfl rfl rfl)
        clear Fld
        go_wp2_with fail
        go_meet
        exact HF.out
      · have p0 : w9.cell? ⟨gf, 1, none⟩ = some (.pointer (some ⟨g3, 1, none⟩)) := F9.out.cell 1
        have v0 : w9.cell? ⟨g3, 1, none⟩ = some (.int .i64 c.lateness) := B39.out.cell 1
        have fz := B39.out.frozen 1
        have HF := hide (Fld.out 1 { c with lateness := n } rfl rfl rfl)
        clear Fld
        go_wp2_with fail
        go_meet
        exact HF.out
      · have p0 : w9.cell? ⟨gf, 2, none⟩ = some (.pointer (some ⟨g3, 2, none⟩)) := F9.out.cell 2
        have v0 : w9.cell? ⟨g3, 2, none⟩ = some (.int .i64 c.windows) := B39.out.cell 2
        have fz := B39.out.frozen 2
        have HF := hide (Fld.out 2 { c with windows := n } rfl rfl rfl)
        clear Fld
        go_wp2_with fail
        go_meet
        exact HF.out
      · have p0 : w9.cell? ⟨gf, 3, none⟩ = some (.pointer (some ⟨g3, 3, none⟩)) := F9.out.cell 3
        have v0 : w9.cell? ⟨g3, 3, none⟩ = some (.int .i64 c.shards) := B39.out.cell 3
        have fz := B39.out.frozen 3
        have HF := hide (Fld.out 3 { c with shards := n } rfl rfl rfl)
        clear Fld
        go_wp2_with fail
        go_meet
        exact HF.out
      · have p0 : w9.cell? ⟨gf, 4, none⟩ = some (.pointer (some ⟨g3, 4, none⟩)) := F9.out.cell 4
        have v0 : w9.cell? ⟨g3, 4, none⟩ = some (.int .i64 c.spread) := B39.out.cell 4
        have fz := B39.out.frozen 4
        have HF := hide (Fld.out 4 { c with spread := n } rfl rfl rfl)
        clear Fld
        go_wp2_with fail
        go_meet
        exact HF.out
      · have p0 : w9.cell? ⟨gf, 5, none⟩ = some (.pointer (some ⟨g3, 5, none⟩)) := F9.out.cell 5
        have v0 : w9.cell? ⟨g3, 5, none⟩ = some (.int .i64 c.queue) := B39.out.cell 5
        have fz := B39.out.frozen 5
        have HF := hide (Fld.out 5 { c with queue := n } rfl rfl rfl)
        clear Fld
        go_wp2_with fail
        go_meet
        exact HF.out
      · have p0 : w9.cell? ⟨gf, 6, none⟩ = some (.pointer (some ⟨g3, 6, none⟩)) := F9.out.cell 6
        have v0 : w9.cell? ⟨g3, 6, none⟩ = some (.int .i64 c.mode) := B39.out.cell 6
        have fz := B39.out.frozen 6
        have HF := hide (Fld.out 6 { c with mode := n } rfl rfl rfl)
        clear Fld
        go_wp2_with fail
        go_meet
        exact HF.out
      · have p0 : w9.cell? ⟨gf, 7, none⟩ = some (.pointer (some ⟨g3, 7, none⟩)) := F9.out.cell 7
        have v0 : w9.cell? ⟨g3, 7, none⟩ = some (.int .i64 c.slots) := B39.out.cell 7
        have fz := B39.out.frozen 7
        have HF := hide (Fld.out 7 { c with slots := n } rfl rfl rfl)
        clear Fld
        go_wp2_with fail
        go_meet
        exact HF.out
      · have p0 : w9.cell? ⟨gf, 8, none⟩ = some (.pointer (some ⟨g3, 8, none⟩)) := F9.out.cell 8
        have v0 : w9.cell? ⟨g3, 8, none⟩ = some (.int .i64 c.exact_) := B39.out.cell 8
        have fz := B39.out.frozen 8
        have HF := hide (Fld.out 8 { c with exact_ := n } rfl rfl rfl)
        clear Fld
        go_wp2_with fail
        go_meet
        exact HF.out
      · have p0 : w9.cell? ⟨gf, 9, none⟩ = some (.pointer (some ⟨g3, 10, none⟩)) := F9.out.cell 9
        have v0 : w9.cell? ⟨g3, 10, none⟩ = some (.int .i64 c.depth) := B39.out.cell 10
        have fz := B39.out.frozen 10
        have HF := hide (Fld.out 10 { c with depth := n } rfl rfl rfl)
        clear Fld
        go_wp2_with fail
        go_meet
        exact HF.out
      · have p0 : w9.cell? ⟨gf, 10, none⟩ = some (.pointer (some ⟨g3, 11, none⟩)) := F9.out.cell 10
        have v0 : w9.cell? ⟨g3, 11, none⟩ = some (.int .i64 c.width) := B39.out.cell 11
        have fz := B39.out.frozen 11
        have HF := hide (Fld.out 11 { c with width := n } rfl rfl rfl)
        clear Fld
        go_wp2_with fail
        go_meet
        exact HF.out
      · have p0 : w9.cell? ⟨gf, 11, none⟩ = some (.pointer (some ⟨g3, 12, none⟩)) := F9.out.cell 11
        have v0 : w9.cell? ⟨g3, 12, none⟩ = some (.int .i64 c.top) := B39.out.cell 12
        have fz := B39.out.frozen 12
        have HF := hide (Fld.out 12 { c with top := n } rfl rfl rfl)
        clear Fld
        go_wp2_with fail
        go_meet
        exact HF.out
      · have p0 : w9.cell? ⟨gf, 12, none⟩ = some (.pointer (some ⟨g3, 13, none⟩)) := F9.out.cell 12
        have v0 : w9.cell? ⟨g3, 13, none⟩ = some (.int .i64 c.key) := B39.out.cell 13
        have fz := B39.out.frozen 13
        have HF := hide (Fld.out 13 { c with key := n } rfl rfl rfl)
        clear Fld
        go_wp2_with fail
        go_meet
        exact HF.out
    have e0 : decide ((kk : Int) < 13) = false := by simp; omega
    clear Fld
    have hrr : 0 ≤ at_ / 16 % 8 ∧ at_ / 16 % 8 < 8 := by omega
    obtain ⟨p, hp, hpn⟩ : ∃ p : Nat, (at_ / 16 % 8) % (n0 : Int) = (p : Int) ∧ p < n0 := ⟨((at_ / 16 % 8) % (n0 : Int)).toNat, by
      have := Int.emod_nonneg (at_ / 16 % 8) (show (n0 : Int) ≠ 0 by omega); omega, by
      have := Int.emod_nonneg (at_ / 16 % 8) (show (n0 : Int) ≠ 0 by omega); have := Int.emod_lt_of_pos (at_ / 16 % 8) (show (0 : Int) < (n0 : Int) by omega); omega⟩
    have htm : Int.tmod (at_ / 16 % 8) (n0 : Int) = (p : Int) := by rw [Int.tmod_eq_emod_of_nonneg hrr.1]; exact hp
    obtain ⟨x, hx⟩ : ∃ x, l[p]? = some x := ⟨l[p]'(by rw [HLn.out]; exact hpn), List.getElem?_eq_getElem _⟩
    obtain ⟨gc, rfl, hgc1, hgc2⟩ := O9.out.some_ (by omega)
    have hgc3 : g3 ≠ gc ∧ g6 ≠ gc := by omega
    have Cls : Hid (∀ (o : Nat) (x' : Int × Int), (prs l).set o (.int .i64 n) = prs (l.set p x') → (wf64 x'.1 ∧ wf64 x'.2) → ∀ wn, Keeps (· = gc) w9 wn → Own wn w2.heap.size 46 2 (some ⟨gc, 0, none⟩) n0 c7 ((prs l).set o (.int .i64 n)) → SpMid w g3 g6 n0 c wn) := hide (fun o x' he hx' wn kS on => by
      obtain ⟨zs, hz, hb⟩ := HZ6.out
      refine ⟨c, l.set p x', some ⟨gc, 0, none⟩, c7, T, q, j, B39.out.kept kS (by omega), ⟨zs, hz, hb.kept kS (by omega)⟩, rfl, rfl, fun y hy => ?_, ?_, ⟨hq, hj⟩, K9.out.step kS (fun b hb e => by omega)⟩
      · rcases List.mem_or_eq_of_mem_set hy with h | h
        · exact HW.out y h
        · rw [h]; exact hx'
      · rw [he] at on; exact on.base_le (by omega))
    have q14 : w9.cell? ⟨g3, 14, none⟩ = some (.slice (some ⟨gc, 0, none⟩) n0 c7) := B39.out.cell 14
    have f14 := B39.out.frozen 14
    have hg3l := B39.out.lt
    have hgcl : gc < w9.heap.size := hgc2
    obtain ⟨px0, px1, ps0, ps1⟩ := prs_put l p x hx
    have hxw := HW.out x (List.mem_of_getElem? hx)
    have hp0 : (0 : Int) ≤ (p : Int) := by omega
    have hp1 : (p : Int) < (n0 : Int) := by omega
    have hn00 : ((n0 : Int) == 0) = false := by simp; omega
    have wp : IntKind.i64.wrap (p : Int) = (p : Int) := IntWalk.i64_in _ (by omega)
    have hnc7 := O9.out.le
    by_cases e13 : kk = 13
    · have e1 : ((kk : Int) == 13) = true := by simp [e13]
      have HS := hide (Cls.out (p * 2 + 1) (x.1, n) (ps1 n) ⟨hxw.1, hn⟩ _ (keepsOne w9 gc (p * 2 + 1) (.int .i64 n)) (O9.out.store (p * 2 + 1) (.int .i64 n)))
      have HS2 := hide (Cls.out (p * 2 + 1) (x.1, n) (ps1 n) ⟨hxw.1, hn⟩ _ (keepsOne w9 gc (p * 2 + 1) (.int .i64 n)).drew ((O9.out.store (p * 2 + 1) (.int .i64 n)).drew))
      have ht := O9.out.cell (p * 2 + 1) (by omega)
      rw [px1] at ht
      have hf := O9.out.frozen (p * 2 + 1)
      clear Cls px0 px1 ps0 ps1 hxw e13 hx
      trace "K8"
      go_upto_region 8 with fail
      go_region
      go_wp2_with fail
      trace "K8 b"
      go_meet
      first | exact HS2.out | exact HS.out
    · have e1 : ((kk : Int) == 13) = false := by simp; omega
      by_cases e14 : kk = 14
      · have e2 : ((kk : Int) == 14) = true := by simp [e14]
        have HS := hide (Cls.out (p * 2) (n, x.2) (ps0 n) ⟨hn, hxw.2⟩ _ (keepsOne w9 gc (p * 2) (.int .i64 n)) (O9.out.store (p * 2) (.int .i64 n)))
        have HS2 := hide (Cls.out (p * 2) (n, x.2) (ps0 n) ⟨hn, hxw.2⟩ _ (keepsOne w9 gc (p * 2) (.int .i64 n)).drew ((O9.out.store (p * 2) (.int .i64 n)).drew))
        have ht := O9.out.cell (p * 2) (by omega)
        rw [px0] at ht
        have hf := O9.out.frozen (p * 2)
        clear Cls px0 px1 ps0 ps1 hxw e13 hx
        trace "K10"
        go_upto_region 10 with fail
        go_region
        go_wp2_with fail
        trace "K10 b"
        go_meet
        first | exact HS2.out | exact HS.out
      · have e2 : ((kk : Int) == 14) = false := by simp; omega
        have hn15 : 0 ≤ n % 16 ∧ n % 16 < 16 := by omega
        obtain ⟨y, hy⟩ : ∃ y : Nat, n % 16 = (y : Int) := ⟨(n % 16).toNat, by omega⟩
        rw [hy] at hn15
        have hy15 : y < 16 := by omega
        obtain ⟨T2, hsl⟩ := sub_cap (P := Try.prog) elemWk T q j .i64 (y : Int) (by omega) (by omega)
        rw [Int.toNat_natCast] at hsl
        have q15 : w9.cell? ⟨g3, 15, none⟩ = some (.slice T q j) := B39.out.cell 15
        have f15 := B39.out.frozen 15
        have HS : Hid (SpMid w g3 g6 n0 c (w9.setCell ⟨g3, 15, none⟩ (.slice T2 y j))) := hide (by
          have kS := keepsOne w9 g3 15 (.slice T2 y j)
          obtain ⟨zs, hz, hb⟩ := HZ6.out
          refine ⟨c, l, some ⟨gc, 0, none⟩, c7, T2, y, j, B39.out.set 15 _, ⟨zs, hz, hb.kept kS (by omega)⟩, rfl, rfl, HW.out, (O9.out.kept kS (fun b hb e => ?_)).base_le (by omega), ⟨by omega, hj⟩, K9.out.step kS (fun b hb e => by omega)⟩
          have := (O9.out.inB hb).1; omega)
        clear Cls px0 px1 ps0 ps1 hxw e13 hx e14
        trace "TABLE"
        go_wp2_with fail
        trace "R4b"
        go_meet
        exact HS.out
  case rest =>
  obtain ⟨c', l', C', k', T', q', j', hb3, ⟨zs, hzs, hb6⟩, hp, hs, hw', o', hqj, kx⟩ := hcut
  have HP := hide hp
  have HS := hide hs
  have HW' := hide hw'
  have O' := hide o'
  have KX := hide kx
  have HB3 := hide hb3
  have HB6 := hide hb6
  clear hp hs hw' o' kx hb3 hb6
  trace "REST"
  go_wp2_with (first | (refine cfg_ld _ rfl HB3.out rfl (by rfl) ?_; simp only [Act.put, List.setIfInBounds_toArray, List.set_cons_zero, List.set_cons_succ]) | (refine cfg_stAt _ _ rfl rfl HB6.out hzs rfl rfl ?_; intro w7 k7 hcell; simp only [Act.put, List.setIfInBounds_toArray, List.set_cons_zero, List.set_cons_succ]))
  trace "ST"
  have K7 := hide (KX.out.step k7 (fun b hb e => by omega))
  have O7 := hide (O'.out.kept k7 (fun b hb e => O'.out.ne_blk HB6.out (by decide) hb e))
  have r0 := hcell 0 (by omega)
  have r1 := hcell 1 (by omega)
  have r2 := hcell 2 (by omega)
  have r3 := hcell 3 (by omega)
  have r4 := hcell 4 (by omega)
  have r5 := hcell 5 (by omega)
  have r6 := hcell 6 (by omega)
  have r7 := hcell 7 (by omega)
  have r8 := hcell 8 (by omega)
  have r9 := hcell 9 (by omega)
  have r10 := hcell 10 (by omega)
  have r11 := hcell 11 (by omega)
  have r12 := hcell 12 (by omega)
  have r13 := hcell 13 (by omega)
  have r14 := hcell 14 (by omega)
  have r15 := hcell 15 (by omega)
  have r16 := hcell 16 (by omega)
  clear hcell k7 KX O' HB3 HB6
  refine bodyPost_ret (v := Value.agg #[.int .i64 c'.length, .int .i64 c'.lateness, .int .i64 c'.windows, .int .i64 c'.shards, .int .i64 c'.spread, .int .i64 c'.queue, .int .i64 c'.mode, .int .i64 c'.slots, .int .i64 c'.exact_, .int .u64 c'.promote, .int .i64 c'.depth, .int .i64 c'.width, .int .i64 c'.top, .int .i64 c'.key, .slice C' n0 k', .slice T' q' j', .int .u64 c'.seed]) (by simp [results, Try.results24, go_sem, r0, r1, r2, r3, r4, r5, r6, r7, r8, r9, r10, r11, r12, r13, r14, r15, r16]) rfl ?_
  exact ⟨c', l', C', k', T', q', j', rfl, HP.out, HS.out, HW'.out, O7.out, hqj, K7.out⟩
end Go.Proofs.Ytgjlibecgkhocaa
