/-
  Summaries in memory; summary.Estimate and the reference's, summary.Bounds. No conditions beyond those of the statement.
-/
import Derived.Test.YtaiopdipldaimaaGJ
import Derived.Test.YtaiopdipldaimaaCmO
import Derived.Test.YtaiopdipldaimaaLd
import Derived.Deep.CutRange
import Derived.Deep.RegionHeld3
set_option linter.unusedVariables false
set_option linter.unusedSimpArgs false
namespace Go.Proofs.Ytaiopdipldaimaa
open Go.RowKit Cfp
/-- a summary's value and its cells -/
abbrev smV (tot : Int) (A : Option Addr) (n cA : Nat) (un : Int) (R : Option Addr) (m cR : Nat) : Value := .agg #[.int .u64 tot, .slice A n cA, .int .u64 un, .slice R m cR]
abbrev smC (tot : Int) (A : Option Addr) (n cA : Nat) (un : Int) (R : Option Addr) (m cR : Nat) : Array Value := #[.int .u64 tot, .slice A n cA, .int .u64 un, .slice R m cR]
/-- its entries and rows read so -/
structure SmIn (w : World) (B : Nat) (A : Option Addr) (n : Nat) (l : List Ln) (R : Option Addr) (m : Nat) (F : RowsF) : Prop where
  len : l.length = n
  ents : Rd w B A 3 n (lnCs l)
  rows : Rd w B R 1 m ((List.range m).map fun j => .slice (F j).1 (F j).2.1 (F j).2.2.1)
  rrd : RowsRd w B .u64 m F
  num : ∀ x ∈ l, U x.lo ∧ U x.hi ∧ x.key.size ≤ 140737488351232
  n1 : n ≤ 1000000
  m1 : m ≤ 1000000
theorem RowsRd.kept {w w' : World} {B m : Nat} {F : RowsF} {S : Nat → Prop} (h : RowsRd w B .u64 m F) (k : Keeps S w w') (hs : ∀ b, b < B → ¬ S b) : RowsRd w' B .u64 m F :=
  fun j hj => ⟨(h j hj).1.kept k hs, (h j hj).2⟩
theorem RowsRd.more {w : World} {B B' m : Nat} {F : RowsF} (h : RowsRd w B .u64 m F) (hB : B ≤ B') : RowsRd w B' .u64 m F :=
  fun j hj => ⟨(h j hj).1.more hB, (h j hj).2⟩
theorem SmIn.kept {w w' : World} {B n m : Nat} {A R : Option Addr} {l : List Ln} {F : RowsF} {S : Nat → Prop} (h : SmIn w B A n l R m F) (k : Keeps S w w') (hs : ∀ b, b < B → ¬ S b) : SmIn w' B A n l R m F :=
  ⟨h.len, h.ents.kept k hs, h.rows.kept k hs, h.rrd.kept k hs, h.num, h.n1, h.m1⟩
theorem SmIn.more {w : World} {B B' n m : Nat} {A R : Option Addr} {l : List Ln} {F : RowsF} (h : SmIn w B A n l R m F) (hB : B ≤ B') : SmIn w B' A n l R m F :=
  ⟨h.len, h.ents.more hB, h.rows.more hB, h.rrd.more hB, h.num, h.n1, h.m1⟩
/-- the estimate of a key -/
def estS (tot : Int) (m : Nat) (F : RowsF) (zs : List Int) (seed : Int) (k : List UInt8) : Int := if m = 0 then tot else Cmp.ofV (Cmp.rowsL F m) zs seed k
section
set_option maxRecDepth 100000 in
theorem est_any (w : World) (B : Nat) (c : Cfg) (C T : Option Addr) (n0 k0 q j : Nat) (zs : List Int) (ht : Rd w B T 1 q (zs.map (.int .u64))) (hzb : ∀ z ∈ zs, 0 ≤ z ∧ z < 18446744073709551616) (hs : 0 ≤ c.seed ∧ c.seed < 18446744073709551616)
    (tot un : Int) (A R : Option Addr) (n cA m cR : Nat) (l : List Ln) (F : RowsF) (h : SmIn w B A n l R m F) (s : ByteArray) (hk : s.size ≤ 140737488351232) :
    Calls Try.prog 44 #[Value.agg #[.int .i64 c.length, .int .i64 c.lateness, .int .i64 c.windows, .int .i64 c.shards, .int .i64 c.spread, .int .i64 c.queue, .int .i64 c.mode, .int .i64 c.slots, .int .i64 c.exact_, .int .u64 c.promote, .int .i64 c.depth, .int .i64 c.width, .int .i64 c.top, .int .i64 c.key, .slice C n0 k0, .slice T q j, .int .u64 c.seed], smV tot A n cA un R m cR, .string s] w fun e w' => e = .returned (.int .u64 (estS tot m F zs c.seed s.data.toList)) ∧ Keeps (fun _ => False) w w' := by
  obtain ⟨w2, hw2⟩ : ∃ w2, w2 = (w.alloc (.cells #[.int .i64 c.length, .int .i64 c.lateness, .int .i64 c.windows, .int .i64 c.shards, .int .i64 c.spread, .int .i64 c.queue, .int .i64 c.mode, .int .i64 c.slots, .int .i64 c.exact_, .int .u64 c.promote, .int .i64 c.depth, .int .i64 c.width, .int .i64 c.top, .int .i64 c.key, .slice C n0 k0, .slice T q j, .int .u64 c.seed] 51)).alloc (.cells (smC tot A n cA un R m cR) 45) := ⟨_, rfl⟩
  have k2 : Keeps (fun _ => False) w w2 := by rw [hw2]; exact ((Keeps.refl _ _).alloc _).alloc _
  have b3 : Blk w2 w.heap.size 51 #[.int .i64 c.length, .int .i64 c.lateness, .int .i64 c.windows, .int .i64 c.shards, .int .i64 c.spread, .int .i64 c.queue, .int .i64 c.mode, .int .i64 c.slots, .int .i64 c.exact_, .int .u64 c.promote, .int .i64 c.depth, .int .i64 c.width, .int .i64 c.top, .int .i64 c.key, .slice C n0 k0, .slice T q j, .int .u64 c.seed] := by rw [hw2]; exact (Blk.new _ _ _).alloc _
  have b4 : Blk w2 (w.heap.size + 1) 45 (smC tot A n cA un R m cR) := by rw [hw2]; exact Blk.new_at _ _ _ _ (by simp)
  have h2 := h.kept k2 (fun _ _ h => h)
  have hO := hide (of_any (w := w2) (c0 := cR) (ct := j) h2.rows h2.rrd h2.m1 (ht.kept k2 (fun _ _ h => h)) hzb c.seed hs.1 hs.2 s hk)
  have c0 : w2.cell? ⟨w.heap.size + 1, 0, none⟩ = some (.int .u64 tot) := b4.cell 0
  have c3 : w2.cell? ⟨w.heap.size + 1, 3, none⟩ = some (.slice R m cR) := b4.cell 3
  have c15 : w2.cell? ⟨w.heap.size, 15, none⟩ = some (.slice T q j) := b3.cell 15
  have c16 : w2.cell? ⟨w.heap.size, 16, none⟩ = some (.int .u64 c.seed) := b3.cell 16
  have K2 := hide k2
  have HW2 := hide hw2
  clear hw2 k2 b3 b4 h2 h ht hzb hs
  by_cases hm : m = 0
  · have e1 : ((m : Int) == 0) = true := by simp [hm]
    have hE : Hid (estS tot m F zs c.seed s.data.toList = tot) := hide (if_pos hm)
    rw [hE.out]
    clear hm hE
    go_enter Try.func44, Try.ntmps44
    go_upto_region 1 with fail
    rw [← HW2.out]
    go_wp2_with fail
    go_ret
    exact ⟨rfl, K2.out⟩
  · have e1 : ((m : Int) == 0) = false := by simp [hm]
    have hE : Hid (estS tot m F zs c.seed s.data.toList = Cmp.ofV (Cmp.rowsL F m) zs c.seed s.data.toList) := hide (if_neg hm)
    rw [hE.out]
    clear hm hE
    go_enter Try.func44, Try.ntmps44
    go_upto_region 1 with fail
    rw [← HW2.out]
    go_wp2_with fail
    refine (hO.out).mono ?_
    rintro e w3 ⟨rfl, nq, rfl⟩
    go_wp2_with fail
    go_ret
    exact ⟨rfl, K2.out.drewN nq⟩
set_option maxRecDepth 100000 in
theorem rest_any (w : World) (B : Nat) (c : Cfg) (C T : Option Addr) (n0 k0 q j : Nat) (zs : List Int) (ht : Rd w B T 1 q (zs.map (.int .u64))) (hzb : ∀ z ∈ zs, 0 ≤ z ∧ z < 18446744073709551616) (hs : 0 ≤ c.seed ∧ c.seed < 18446744073709551616)
    (tot un : Int) (A R : Option Addr) (n cA m cR : Nat) (l : List Ln) (F : RowsF) (h : SmIn w B A n l R m F) (s : ByteArray) (hk : s.size ≤ 140737488351232) :
    Calls Try.prog 45 #[Value.agg #[.int .i64 c.length, .int .i64 c.lateness, .int .i64 c.windows, .int .i64 c.shards, .int .i64 c.spread, .int .i64 c.queue, .int .i64 c.mode, .int .i64 c.slots, .int .i64 c.exact_, .int .u64 c.promote, .int .i64 c.depth, .int .i64 c.width, .int .i64 c.top, .int .i64 c.key, .slice C n0 k0, .slice T q j, .int .u64 c.seed], smV tot A n cA un R m cR, .string s] w fun e w' => e = .returned (.int .u64 (estS tot m F zs c.seed s.data.toList)) ∧ Keeps (fun _ => False) w w' := by
  obtain ⟨w2, hw2⟩ : ∃ w2, w2 = (w.alloc (.cells #[.int .i64 c.length, .int .i64 c.lateness, .int .i64 c.windows, .int .i64 c.shards, .int .i64 c.spread, .int .i64 c.queue, .int .i64 c.mode, .int .i64 c.slots, .int .i64 c.exact_, .int .u64 c.promote, .int .i64 c.depth, .int .i64 c.width, .int .i64 c.top, .int .i64 c.key, .slice C n0 k0, .slice T q j, .int .u64 c.seed] 51)).alloc (.cells (smC tot A n cA un R m cR) 45) := ⟨_, rfl⟩
  have k2 : Keeps (fun _ => False) w w2 := by rw [hw2]; exact ((Keeps.refl _ _).alloc _).alloc _
  have b3 : Blk w2 w.heap.size 51 #[.int .i64 c.length, .int .i64 c.lateness, .int .i64 c.windows, .int .i64 c.shards, .int .i64 c.spread, .int .i64 c.queue, .int .i64 c.mode, .int .i64 c.slots, .int .i64 c.exact_, .int .u64 c.promote, .int .i64 c.depth, .int .i64 c.width, .int .i64 c.top, .int .i64 c.key, .slice C n0 k0, .slice T q j, .int .u64 c.seed] := by rw [hw2]; exact (Blk.new _ _ _).alloc _
  have b4 : Blk w2 (w.heap.size + 1) 45 (smC tot A n cA un R m cR) := by rw [hw2]; exact Blk.new_at _ _ _ _ (by simp)
  have h2 := h.kept k2 (fun _ _ h => h)
  have hO := hide (rof_any (w := w2) (c0 := cR) (ct := j) h2.rows h2.rrd h2.m1 (ht.kept k2 (fun _ _ h => h)) hzb c.seed hs.1 hs.2 s hk)
  have c0 : w2.cell? ⟨w.heap.size + 1, 0, none⟩ = some (.int .u64 tot) := b4.cell 0
  have c3 : w2.cell? ⟨w.heap.size + 1, 3, none⟩ = some (.slice R m cR) := b4.cell 3
  have c15 : w2.cell? ⟨w.heap.size, 15, none⟩ = some (.slice T q j) := b3.cell 15
  have c16 : w2.cell? ⟨w.heap.size, 16, none⟩ = some (.int .u64 c.seed) := b3.cell 16
  have K2 := hide k2
  have HW2 := hide hw2
  clear hw2 k2 b3 b4 h2 h ht hzb hs
  by_cases hm : m = 0
  · have e1 : ((m : Int) == 0) = true := by simp [hm]
    have hE : Hid (estS tot m F zs c.seed s.data.toList = tot) := hide (if_pos hm)
    rw [hE.out]
    clear hm hE
    go_enter Try.func45, Try.ntmps45
    go_upto_region 1 with fail
    rw [← HW2.out]
    go_wp2_with fail
    go_ret
    exact ⟨rfl, K2.out⟩
  · have e1 : ((m : Int) == 0) = false := by simp [hm]
    have hE : Hid (estS tot m F zs c.seed s.data.toList = Cmp.ofV (Cmp.rowsL F m) zs c.seed s.data.toList) := hide (if_neg hm)
    rw [hE.out]
    clear hm hE
    go_enter Try.func45, Try.ntmps45
    go_upto_region 1 with fail
    rw [← HW2.out]
    go_wp2_with fail
    refine (hO.out).mono ?_
    rintro e w3 ⟨rfl, nq, rfl⟩
    go_wp2_with fail
    go_ret
    exact ⟨rfl, K2.out.drewN nq⟩
end
end Go.Proofs.Ytaiopdipldaimaa
