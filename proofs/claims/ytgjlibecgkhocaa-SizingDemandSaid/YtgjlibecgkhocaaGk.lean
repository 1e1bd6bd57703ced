/-
  Small things for the law's spoilt: a configuration stored over another one; a slice cut within its capacity. No conditions beyond those of the statement.
-/
import Derived.Test.YtgjlibecgkhocaaLe
import Derived.Test.YtgjlibecgkhocaaAx
import Derived.Test.YtgjlibecgkhocaaMem3
import Derived.Deep.MidRow
set_option linter.unusedVariables false
set_option linter.unusedSimpArgs false
namespace Go.Proofs.Ytgjlibecgkhocaa
open Go.RowKit Cfp
theorem clv_prs : ∀ l : List (Int × Int), clv l = prs l
  | [] => rfl
  | c :: l => by
    show Value.int .i64 c.1 :: .int .i64 c.2 :: clv l = [Value.int .i64 c.1, .int .i64 c.2] ++ prs l
    rw [clv_prs l]
    rfl
/-- numbers of a configuration as they come: words of 64 bits -/
def Wide (l : List (Int × Int)) : Prop := ∀ c ∈ l, (-9223372036854775808 ≤ c.1 ∧ c.1 < 9223372036854775808) ∧ (-9223372036854775808 ≤ c.2 ∧ c.2 < 9223372036854775808)
theorem elemCk : ElemOf Try.prog 25 46 2 16 := ElemOf.mk' (z := .agg #[.int .i64 0, .int .i64 0]) Try.underlying25 (by kernel_rfl) rfl (by omega)
theorem elemWk : ElemOf Try.prog 26 24 1 8 := ElemOf.mk' (z := .int .u64 0) Try.underlying26 (by kernel_rfl) rfl (by omega)
theorem prs_oneS : ∀ l : List (Int × Int), ∀ u ∈ prs l, u.oneCell' = true := by
  intro l u hu
  obtain ⟨x, _, hx⟩ := List.mem_flatMap.1 hu
  simp [prC] at hx
  rcases hx with rfl | rfl <;> rfl
theorem prs_put : ∀ (l : List (Int × Int)) (p : Nat) (x : Int × Int), l[p]? = some x → (prs l)[p * 2]? = some (.int .i64 x.1) ∧ (prs l)[p * 2 + 1]? = some (.int .i64 x.2) ∧ (∀ n : Int, (prs l).set (p * 2) (.int .i64 n) = prs (l.set p (n, x.2))) ∧ (∀ n : Int, (prs l).set (p * 2 + 1) (.int .i64 n) = prs (l.set p (x.1, n)))
  | [], p, x, h => by simp at h
  | y :: l, 0, x, h => by
    simp at h
    subst h
    refine ⟨rfl, rfl, fun n => rfl, fun n => rfl⟩
  | y :: l, p + 1, x, h => by
    have e : prs (y :: l) = .int .i64 y.1 :: .int .i64 y.2 :: prs l := rfl
    obtain ⟨h1, h2, h3, h4⟩ := prs_put l p x (by simpa using h)
    rw [e, show (p + 1) * 2 = p * 2 + 2 by omega, show p * 2 + 2 + 1 = p * 2 + 1 + 2 by omega]
    refine ⟨by simpa using h1, by simpa using h2, fun n => ?_, fun n => ?_⟩
    · simp only [List.set_cons_succ]; rw [h3 n]; rfl
    · simp only [List.set_cons_succ]; rw [h4 n]; rfl
theorem keeps_cells (g : Nat) : ∀ (vs : List Value) (o : Nat) (w : World), Keeps (· = g) w (w.setCells g o vs)
  | [], o, w => Keeps.refl _ _
  | v :: vs, o, w => (Keeps.setCell (S := (· = g)) (Keeps.refl (· = g) w) (p := ⟨g, o, none⟩) (.inl rfl) v).trans (keeps_cells g vs (o + 1) _)
/-- a slice is cut within its capacity -/
theorem sub_cap {P : Program} {t e : TypeId} {sz bytes : Nat} (E : ElemOf P t e sz bytes) (A : Option Addr) (n c : Nat) (k : IntKind) (y : Int) (h0 : 0 ≤ y) (h2 : y ≤ c) :
    ∃ A', (∀ w, (Instr.sliceAt t (.slice A n c) none (some (.int k y)) none).run P w = .ok (.slice A' y.toNat c) w) := by
  obtain ⟨ht, ⟨i, z, hi, hz, hsize, hby, hzs⟩, hpos⟩ := E
  have hel : P.elem t = e := by simp [Program.elem, ht]
  refine ⟨if c = 0 then A else A.map (·.add (0 * sz)), fun w => ?_⟩
  rw [run_sliceAt_slice _ _ _ _ _ _ (by rw [hel]; exact ht), run_slice_h _ _ _ _ _ (by rw [hel]; exact ht) _ _ h0 (by omega)]
  simp [sizeOf, typeInfo, hel, hi, hsize, sliced]
/-- a whole configuration is stored over a block of 17 cells -/
theorem cfg_stAt {ops : Array Oper} {rest : List Oper} {o : Oper} {a : Act} {w : World} {Q : Exit → Act → World → Prop} {c : Cfg} {C T : Option Addr} {n k q j g : Nat} {zs : Array Value} (x y : Operand) (ho : o.op = .store 28 x y) (hgd : o.guard = none)
    (hb : Blk w g 28 zs) (hz : zs.size = 17) (hx : a.eval x = .pointer (some ⟨g, 0, none⟩)) (hy : a.eval y = Value.agg #[.int .i64 c.length, .int .i64 c.lateness, .int .i64 c.windows, .int .i64 c.shards, .int .i64 c.spread, .int .i64 c.queue, .int .i64 c.mode, .int .i64 c.slots, .int .i64 c.exact_, .int .u64 c.promote, .int .i64 c.depth, .int .i64 c.width, .int .i64 c.top, .int .i64 c.key, .slice C n k, .slice T q j, .int .u64 c.seed])
    (h : ∀ w', Keeps (· = g) w w' → (∀ i, i < 17 → w'.cell? ⟨g, i, none⟩ = (#[.int .i64 c.length, .int .i64 c.lateness, .int .i64 c.windows, .int .i64 c.shards, .int .i64 c.spread, .int .i64 c.queue, .int .i64 c.mode, .int .i64 c.slots, .int .i64 c.exact_, .int .u64 c.promote, .int .i64 c.depth, .int .i64 c.width, .int .i64 c.top, .int .i64 c.key, .slice C n k, .slice T q j, .int .u64 c.seed])[i]?) → wpList Try.prog ops Q rest (a.put o.dst undef) w') : wpList Try.prog ops Q (o :: rest) a w := by
  have ht : w.there g 0 17 := fun i hi => ⟨by rw [hb.cell (0 + i)]; simp; omega, hb.frozen (0 + i)⟩
  refine wpList_store_mid hgd 28 x y ho g 0 _ hx hy ht (by kernel_rfl) (by simp [Value.oneCell']) ?_
  refine h _ (keeps_cells g _ 0 w) (fun i hi => ?_)
  have hr := World.rangeAt_setCells_same w g 0 (#[.int .i64 c.length, .int .i64 c.lateness, .int .i64 c.windows, .int .i64 c.shards, .int .i64 c.spread, .int .i64 c.queue, .int .i64 c.mode, .int .i64 c.slots, .int .i64 c.exact_, .int .u64 c.promote, .int .i64 c.depth, .int .i64 c.width, .int .i64 c.top, .int .i64 c.key, .slice C n k, .slice T q j, .int .u64 c.seed] : Array Value).toList ht
  have h2 : i < (#[.int .i64 c.length, .int .i64 c.lateness, .int .i64 c.windows, .int .i64 c.shards, .int .i64 c.spread, .int .i64 c.queue, .int .i64 c.mode, .int .i64 c.slots, .int .i64 c.exact_, .int .u64 c.promote, .int .i64 c.depth, .int .i64 c.width, .int .i64 c.top, .int .i64 c.key, .slice C n k, .slice T q j, .int .u64 c.seed] : Array Value).toList.length := hi
  have := hr i _ (List.getElem?_eq_getElem h2)
  rw [Nat.zero_add] at this
  rw [this, ← Array.getElem?_toList, List.getElem?_eq_getElem h2]
end Go.Proofs.Ytgjlibecgkhocaa
