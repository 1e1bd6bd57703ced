/-
  What a valid configuration demands: a number, and a list of numbers in a block of its own, one for each class.
-/
import Derived.Test.YtaiopdipldaimaaCf2
import Derived.RegionTactic
import Derived.Deep.RegionHeld3
import Derived.IntWalk
set_option linter.unusedVariables false
set_option linter.unusedSimpArgs false
namespace Go.Proofs.Ytaiopdipldaimaa
open Go.RowKit Cfp

theorem box1 {w w4 : World} {t : TypeId} {cs : Array Value} (k : Keeps (fun _ => False) (w.alloc (.cells cs t)) w4) : Blk w4 w.heap.size t cs ∧ Keeps (fun _ => False) w w4 :=
  ⟨(Blk.new w t cs).kept k (fun h => h), ((Keeps.refl (fun _ => False) w).alloc _).trans k⟩

/-- a product of two small numbers -/
theorem mul_bd {a b A B : Int} (ha : 0 ≤ a ∧ a ≤ A) (hb : 0 ≤ b ∧ b ≤ B) : 0 ≤ a * b ∧ a * b ≤ A * B :=
  ⟨Int.mul_nonneg ha.1 hb.1, Int.le_trans (Int.mul_le_mul_of_nonneg_right ha.2 hb.1) (Int.mul_le_mul_of_nonneg_left hb.2 (Int.le_trans ha.1 ha.2))⟩
theorem Fine.sw {c : Cfg} (h : Fine c) : 0 ≤ c.shards * c.windows ∧ c.shards * c.windows ≤ 64 := mul_bd (A := 8) (B := 8) (by have := h.shards; omega) (by have := h.windows; omega)
theorem Fine.swd {c : Cfg} (h : Fine c) : 0 ≤ c.shards * c.windows * c.depth ∧ c.shards * c.windows * c.depth ≤ 256 := mul_bd (A := 64) (B := 4) h.sw (by have := h.depth; omega)
theorem Fine.sq {c : Cfg} (h : Fine c) : 0 ≤ c.shards * c.queue ∧ c.shards * c.queue ≤ 512 := mul_bd (A := 8) (B := 64) (by have := h.shards; omega) (by have := h.queue; omega)
theorem Fine.tr {c : Cfg} (h : Fine c) : 0 ≤ tracked0 c ∧ tracked0 c ≤ 6144 := mul_bd (A := 64) (B := 96) h.sw (by have := h.slots; have := h.exact_; omega)
set_option maxRecDepth 100000 in
set_option maxHeartbeats 2000000 in
theorem tracked_ok (c : Cfg) (h : Fine c) (l : List (Int × Int)) (hl : classesE l = 0) (hm : Room c l) (C T : Option Addr) (n k j B : Nat) (w : World) (hr : Rd w B C 2 n (clv l)) (hB : B ≤ w.heap.size) :
    Calls Try.prog 84 #[Value.agg #[.int .i64 c.length, .int .i64 c.lateness, .int .i64 c.windows, .int .i64 c.shards, .int .i64 c.spread, .int .i64 c.queue, .int .i64 c.mode, .int .i64 c.slots, .int .i64 c.exact_, .int .u64 c.promote, .int .i64 c.depth, .int .i64 c.width, .int .i64 c.top, .int .i64 c.key, .slice C n k, .slice T 16 j, .int .u64 c.seed]] w fun e w' => e = .returned (.int .i64 (tracked0 c)) ∧ Keeps (fun _ => False) w w' := by
  have HR := hide hr
  have h1 := h.shards
  have h2 := h.windows
  have h3 := h.slots
  have h4 := h.exact_
  have h5 := h.sw
  have h6 := h.tr
  have hw1 : IntKind.i64.wrap (c.shards * c.windows) = c.shards * c.windows := IntWalk.i64_in _ (by omega)
  have hw2 : IntKind.i64.wrap (c.shards * c.windows * (c.slots + c.exact_)) = c.shards * c.windows * (c.slots + c.exact_) := IntWalk.i64_in _ (by unfold tracked0 at h6; omega)
  have HW1 := hide hw1
  have HW2 := hide hw2
  clear hr hw1 hw2
  go_enter Try.func84, Try.ntmps84
  go_wp2_with fail
  refine (config_ok2 c h l hl hm _ _ _ _ _ B _ (HR.out.kept ((Keeps.refl (fun _ => False) w).alloc _) (fun _ _ h => h)) (Nat.le_trans hB ((Keeps.refl (fun _ => False) w).alloc _).size)).mono ?_
  rintro e w4 ⟨rfl, k4⟩
  obtain ⟨b4, k4⟩ := box1 k4
  have f2 : w4.cell? ⟨w.heap.size, 2, none⟩ = some (.int .i64 c.windows) := b4.cell 2
  have f3 : w4.cell? ⟨w.heap.size, 3, none⟩ = some (.int .i64 c.shards) := b4.cell 3
  have f7 : w4.cell? ⟨w.heap.size, 7, none⟩ = some (.int .i64 c.slots) := b4.cell 7
  have f8 : w4.cell? ⟨w.heap.size, 8, none⟩ = some (.int .i64 c.exact_) := b4.cell 8
  have K4 := hide k4
  have hw1 := HW1.out
  have hw2 := HW2.out
  clear k4 b4
  go_wp2_with fail
  go_ret
  refine ⟨ret_int ?_, K4.out⟩
  unfold tracked0
  first | rfl | (simp only [wrap64] at *; omega)

theorem run_makeI (n : Nat) (hn : n ≤ 65536) (w : World) : (Instr.makeSlice 22 (.int .i64 (n : Int)) (.int .i64 (n : Int))).run Try.prog w = .ok (.slice (some ⟨w.heap.size, 0, none⟩) n n) (w.alloc (.cells (List.replicate n (.int .i64 0)).toArray 3)) := by
  have hi : (Try.prog.info? 3).map (fun i => (i.zero, i.size, i.bytes)) = some (some (.int .i64 0), 1, 8) := by kernel_rfl
  obtain ⟨i, h1, h2, h3, h4⟩ := info_parts hi
  have hr := run_make (P := Try.prog) w 22 3 i (.int .i64 0) Try.underlying22 h1 h2 .i64 .i64 (n : Int) (n : Int) (by omega) (by omega) (by rw [h4]; omega) (by omega)
  rw [hr, Int.toNat_natCast, h3, Nat.mul_one]
  have : madeCells (Value.int .i64 0).cells n = (List.replicate n (Value.int .i64 0)).toArray := by
    apply Array.ext'
    rw [show (Value.int .i64 0).cells = #[Value.int .i64 0] from rfl]
    refine List.ext_getElem (by simp [madeCells]) (fun j h1 h2 => ?_)
    simp [madeCells, Nat.mod_one]
  rw [this]

/-- these numbers in a block -/
def Nums (w : World) (g : Nat) (zs : List Int) : Prop := Blk w g 3 (zs.map (.int .i64)).toArray
theorem Nums.kept {S : Nat → Prop} {w w' : World} {g : Nat} {zs : List Int} (h : Nums w g zs) (k : Keeps S w w') (hg : ¬ S g) : Nums w' g zs := Blk.kept h k hg
theorem Nums.cell {w : World} {g : Nat} {zs : List Int} (h : Nums w g zs) (i : Nat) (hi : i < zs.length) : w.cell? ⟨g, i, none⟩ = some (.int .i64 (zs.getD i 0)) := by
  rw [Blk.cell h]; simp [List.getD, hi]
theorem Nums.frozen {w : World} {g : Nat} {zs : List Int} (h : Nums w g zs) (i : Nat) : w.frozen? ⟨g, i, none⟩ = false := Blk.frozen h i
theorem Nums.add {w : World} {g : Nat} {zs : List Int} (h : Nums w g zs) (i : Nat) (x : Int) : Nums (w.setCell ⟨g, i, none⟩ (.int .i64 (zs.getD i 0 + x))) g (addAt zs i x) := by
  have := Blk.set h i (.int .i64 (zs.getD i 0 + x))
  unfold Nums addAt
  simpa [List.map_set] using this
theorem Nums.lt {w : World} {g : Nat} {zs : List Int} (h : Nums w g zs) : g < w.heap.size := Blk.lt h

/-- the 17 cells of a configuration in a block -/
theorem cfg_cells {w : World} {g : Nat} {c : Cfg} {C T : Option Addr} {n k j : Nat} (h : Blk w g 51 #[.int .i64 c.length, .int .i64 c.lateness, .int .i64 c.windows, .int .i64 c.shards, .int .i64 c.spread, .int .i64 c.queue, .int .i64 c.mode, .int .i64 c.slots, .int .i64 c.exact_, .int .u64 c.promote, .int .i64 c.depth, .int .i64 c.width, .int .i64 c.top, .int .i64 c.key, .slice C n k, .slice T 16 j, .int .u64 c.seed]) :
    (w.cell? ⟨g, 0, none⟩ = some (.int .i64 c.length) ∧ w.cell? ⟨g, 1, none⟩ = some (.int .i64 c.lateness) ∧ w.cell? ⟨g, 2, none⟩ = some (.int .i64 c.windows) ∧ w.cell? ⟨g, 3, none⟩ = some (.int .i64 c.shards) ∧
     w.cell? ⟨g, 4, none⟩ = some (.int .i64 c.spread) ∧ w.cell? ⟨g, 5, none⟩ = some (.int .i64 c.queue) ∧ w.cell? ⟨g, 6, none⟩ = some (.int .i64 c.mode) ∧ w.cell? ⟨g, 7, none⟩ = some (.int .i64 c.slots) ∧
     w.cell? ⟨g, 8, none⟩ = some (.int .i64 c.exact_) ∧ w.cell? ⟨g, 9, none⟩ = some (.int .u64 c.promote) ∧ w.cell? ⟨g, 10, none⟩ = some (.int .i64 c.depth) ∧ w.cell? ⟨g, 11, none⟩ = some (.int .i64 c.width) ∧
     w.cell? ⟨g, 12, none⟩ = some (.int .i64 c.top) ∧ w.cell? ⟨g, 13, none⟩ = some (.int .i64 c.key) ∧ w.cell? ⟨g, 14, none⟩ = some (.slice C n k) ∧ w.cell? ⟨g, 15, none⟩ = some (.slice T 16 j) ∧
     w.cell? ⟨g, 16, none⟩ = some (.int .u64 c.seed)) :=
  ⟨h.cell 0, h.cell 1, h.cell 2, h.cell 3, h.cell 4, h.cell 5, h.cell 6, h.cell 7, h.cell 8, h.cell 9, h.cell 10, h.cell 11, h.cell 12, h.cell 13, h.cell 14, h.cell 15, h.cell 16⟩
end Go.Proofs.Ytaiopdipldaimaa
