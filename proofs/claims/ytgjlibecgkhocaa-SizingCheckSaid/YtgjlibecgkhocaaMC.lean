/-
  An argument that is a slice of structs of two integers. An argument that is a configuration: its numbers, its classes, its table.
-/
import Derived.Test.YtgjlibecgkhocaaAx
import Derived.Deep.SlicePairs
import Derived.Test.YtgjlibecgkhocaaGk
import Derived.Deep.Fields
set_option linter.unusedVariables false
set_option linter.unusedSimpArgs false
namespace Go.Proofs.Ytgjlibecgkhocaa
open Go.RowKit Go.ChangeShapes Go.WideShapes

def intV : Value → Int
  | .int _ z => z
  | _ => 0
theorem arg_pairs {H : Type} {enc : TypeId × Value → H} {P : Program} {W : World} {t e : TypeId} {f0 f1 : Field} {A : Option Addr} {n c : Nat} {d : DataW H} {p : List MemPlace} {ts : List TypeId} {ds : List (DataW H)} {j : Nat}
    (ht : P.underlying t = some (.slice e)) (he : P.underlying e = some (.struct #[f0, f1])) (ce : P.cellsOf e = 2) (o0 : f0.offset = 0) (o1 : f1.offset = 1) (c0 : P.cellsOf f0.type = 1) (c1 : P.cellsOf f1.type = 1)
    (u0 : P.underlying f0.type = some (.int .i64)) (u1 : P.underlying f1.type = some (.int .i64)) (hby : P.bytesOf e = 16)
    (h : DataW.Trod enc P W 0 (fun _ => true) true t (.slice A n c) d p)
    (hsz : (DataW.weightsEach P ts ds).all (· ≤ reachBytes) = true) (htj : ts[j]? = some t) (hdj : ds[j]? = some d) :
    ∃ l : List (Int × Int), Rd W W.heap.size A 2 n (prs l) ∧ (∀ x ∈ l, (Lit.int .i64 x.1).wf = true ∧ (Lit.int .i64 x.2).wf = true) ∧ n * 16 ≤ 140737488351232 ∧ n ≤ c := by
  obtain ⟨fuel, hf⟩ := h
  rcases Deep.open_slice_pairs ht he ce o0 o1 c0 c1 hf with ⟨hcs, _⟩ | ⟨x, l, c', m, fu, V0, V1, D0, D1, P0, P1, hcs, _, hl, hcm, hm, hx, hcell⟩
  · simp [Value.cells] at hcs
    obtain ⟨rfl, rfl, rfl⟩ := hcs
    exact ⟨[], Rd.zero rfl, by simp, by omega, by omega⟩
  · simp [Value.cells] at hcs
    obtain ⟨rfl, rfl, rfl⟩ := hcs
    simp only [Prod.mk.injEq] at hx
    obtain ⟨rfl, _⟩ := hx
    have hs := sized_slice hsz htj hdj ht
    rw [hby] at hs
    simp only [List.length_map, List.length_range] at hs
    have hmc : m = c := by rw [hm]; simp
    subst hmc
    have hv : ∀ i, i < n → ∃ a b, V0 i = .int .i64 a ∧ V1 i = .int .i64 b ∧ (Lit.int .i64 a).wf = true ∧ (Lit.int .i64 b).wf = true := fun i hi => by
      obtain ⟨_, _, h3, h4⟩ := hcell i (by omega)
      obtain ⟨a, ha, _, hwa⟩ := DataW.trod_int u0 h3
      obtain ⟨b, hb, _, hwb⟩ := DataW.trod_int u1 h4
      simp at ha hb
      exact ⟨a, b, ha, hb, hwa, hwb⟩
    have hnb : n * 16 ≤ m * 16 := Nat.mul_le_mul_right _ hl
    refine ⟨(List.range n).map fun i => (intV (V0 i), intV (V1 i)), ⟨by rw [prs_len]; simp, fun hn => ?_⟩, fun y hy => ?_, by simp only [reachBytes] at hs; omega, hl⟩
    · obtain ⟨b, off, spot⟩ := x
      have h0 := (hcell 0 (by omega)).1
      have hspot : spot = none := by simpa [Addr.add] using World.cell?_spot h0
      subst hspot
      refine ⟨b, off, rfl, by simpa [Addr.add] using block_lt_of_cell h0, fun q u hu => ?_⟩
      have hq : q < n * 2 := by
        have := (List.getElem?_eq_some_iff.1 hu).1
        rw [prs_len] at this
        simpa using this
      obtain ⟨i, r, rfl, hr⟩ : ∃ i r, q = i * 2 + r ∧ r < 2 := ⟨q / 2, q % 2, by omega, by omega⟩
      have hi : i < n := by omega
      obtain ⟨a, b', e0, e1, _, _⟩ := hv i hi
      obtain ⟨g0, g1, _, _⟩ := hcell i (by omega)
      rw [add_plain] at g0 g1
      have hx : ((List.range n).map fun i => (intV (V0 i), intV (V1 i)))[i]? = some (intV (V0 i), intV (V1 i)) := by simp [hi]
      obtain ⟨k0, k1⟩ := prs_at hx
      rcases r with _ | _ | r
      · have : (prs ((List.range n).map fun i => (intV (V0 i), intV (V1 i))))[i * 2 + 0]? = some (.int .i64 (intV (V0 i))) := k0
        rw [this] at hu
        injection hu with hu
        rw [← hu, e0]
        rw [e0] at g0
        exact g0
      · rw [k1] at hu
        injection hu with hu
        rw [← hu, e1]
        rw [e1] at g1
        exact g1
      · omega
    · obtain ⟨i, hi, rfl⟩ := List.mem_map.1 hy
      obtain ⟨a, b', e0, e1, w0, w1⟩ := hv i (List.mem_range.1 hi)
      dsimp only
      rw [e0, e1]
      exact ⟨w0, w1⟩
end Go.Proofs.Ytgjlibecgkhocaa

set_option linter.unusedVariables false
set_option linter.unusedSimpArgs false
namespace Go.Proofs.Ytgjlibecgkhocaa
open Go.RowKit Go.ChangeShapes Go.WideShapes Cfp
section
variable {H : Type} {enc : TypeId × Value → H} {P : Program} {W : World}
theorem trod_pairsC {t e : TypeId} {f0 f1 : Field} {fuel : Nat} {v : Value} {x : DataW H × List MemPlace}
    (ht : P.underlying t = some (.slice e)) (he : P.underlying e = some (.struct #[f0, f1])) (ce : P.cellsOf e = 2) (o0 : f0.offset = 0) (o1 : f1.offset = 1) (c0 : P.cellsOf f0.type = 1) (c1 : P.cellsOf f1.type = 1)
    (u0 : P.underlying f0.type = some (.int .i64)) (u1 : P.underlying f1.type = some (.int .i64)) (h : DataW.trod enc P W 0 (fun _ => true) true fuel t [v] = some x) :
    ∃ (A : Option Addr) (n c : Nat) (l : List (Int × Int)), v = .slice A n c ∧ Rd W W.heap.size A 2 n (prs l) ∧ Wide l ∧ n ≤ c := by
  rcases Deep.open_slice_pairs ht he ce o0 o1 c0 c1 h with ⟨hcs, _⟩ | ⟨x, l, c', m, fu, V0, V1, D0, D1, P0, P1, hcs, _, hl, hcm, hm, hx, hcell⟩
  · simp at hcs
    exact ⟨none, 0, 0, [], hcs, Rd.zero rfl, fun _ h => (by cases h), by omega⟩
  · simp at hcs
    have hmc : m = c' := by rw [hm]; simp
    subst hmc
    have hv : ∀ i, i < l → ∃ a b, V0 i = .int .i64 a ∧ V1 i = .int .i64 b ∧ (Lit.int .i64 a).wf = true ∧ (Lit.int .i64 b).wf = true := fun i hi => by
      obtain ⟨_, _, h3, h4⟩ := hcell i (by omega)
      obtain ⟨a, ha, _, hwa⟩ := DataW.trod_int u0 h3
      obtain ⟨b, hb, _, hwb⟩ := DataW.trod_int u1 h4
      simp at ha hb
      exact ⟨a, b, ha, hb, hwa, hwb⟩
    refine ⟨some x, l, m, (List.range l).map fun i => (intV (V0 i), intV (V1 i)), hcs, ⟨by rw [prs_len]; simp, fun hn => ?_⟩, fun y hy => ?_, hl⟩
    · obtain ⟨b, off, spot⟩ := x
      have h0 := (hcell 0 (by omega)).1
      have hspot : spot = none := by simpa [Addr.add] using World.cell?_spot h0
      subst hspot
      refine ⟨b, off, rfl, by simpa [Addr.add] using block_lt_of_cell h0, fun q u hu => ?_⟩
      have hq : q < l * 2 := by
        have := (List.getElem?_eq_some_iff.1 hu).1
        rw [prs_len] at this
        simpa using this
      obtain ⟨i, r, rfl, hr⟩ : ∃ i r, q = i * 2 + r ∧ r < 2 := ⟨q / 2, q % 2, by omega, by omega⟩
      have hi : i < l := by omega
      obtain ⟨a, b', e0, e1, _, _⟩ := hv i hi
      obtain ⟨g0, g1, _, _⟩ := hcell i (by omega)
      rw [add_plain] at g0 g1
      have hx : ((List.range l).map fun i => (intV (V0 i), intV (V1 i)))[i]? = some (intV (V0 i), intV (V1 i)) := by simp [hi]
      obtain ⟨k0, k1⟩ := prs_at hx
      rcases r with _ | _ | r
      · have : (prs ((List.range l).map fun i => (intV (V0 i), intV (V1 i))))[i * 2 + 0]? = some (.int .i64 (intV (V0 i))) := k0
        rw [this] at hu
        rw [e0] at hu g0
        simp only [intV] at hu
        rw [← hu]; exact g0
      · rw [k1] at hu
        rw [e1] at hu g1
        simp only [intV] at hu
        rw [← hu]; exact g1
      · omega
    · obtain ⟨i, hi, rfl⟩ := List.mem_map.1 hy
      obtain ⟨a, b, e0, e1, w0, w1⟩ := hv i (List.mem_range.1 hi)
      rw [e0, e1]
      exact ⟨wf_i64 w0, wf_i64 w1⟩
/-- a configuration, as an argument -/
theorem arg_cfg {ts eC eT : TypeId} {g0 g1 f0 f1 f2 f3 f4 f5 f6 f7 f8 f9 f10 f11 f12 f13 f14 f15 f16 : Field} {cs : Array Value} {d : DataW H} {p : List MemPlace} (hs : P.underlying ts = some (.struct #[f0, f1, f2, f3, f4, f5, f6, f7, f8, f9, f10, f11, f12, f13, f14, f15, f16])) (u0 : P.underlying f0.type = some (.int .i64)) (u1 : P.underlying f1.type = some (.int .i64)) (u2 : P.underlying f2.type = some (.int .i64)) (u3 : P.underlying f3.type = some (.int .i64)) (u4 : P.underlying f4.type = some (.int .i64)) (u5 : P.underlying f5.type = some (.int .i64)) (u6 : P.underlying f6.type = some (.int .i64)) (u7 : P.underlying f7.type = some (.int .i64)) (u8 : P.underlying f8.type = some (.int .i64)) (u9 : P.underlying f9.type = some (.int .u64)) (u10 : P.underlying f10.type = some (.int .i64)) (u11 : P.underlying f11.type = some (.int .i64)) (u12 : P.underlying f12.type = some (.int .i64)) (u13 : P.underlying f13.type = some (.int .i64)) (u14 : P.underlying f14.type = some (.slice eC)) (u15 : P.underlying f15.type = some (.slice eT)) (u16 : P.underlying f16.type = some (.int .u64)) (he : P.underlying eC = some (.struct #[g0, g1])) (ce : P.cellsOf eC = 2) (o0 : g0.offset = 0) (o1 : g1.offset = 1) (c0 : P.cellsOf g0.type = 1) (c1 : P.cellsOf g1.type = 1) (x0 : P.underlying g0.type = some (.int .i64)) (x1 : P.underlying g1.type = some (.int .i64))
    (hone : Deep.oneCellFields P #[f0, f1, f2, f3, f4, f5, f6, f7, f8, f9, f10, f11, f12, f13, f14, f15, f16] = true) (hC : P.cellsOf ts = 17) (h : DataW.Trod enc P W 0 (fun _ => true) true ts (.agg cs) d p) :
    ∃ (c : Cfg) (l : List (Int × Int)) (C : Option Addr) (n k : Nat) (T : Option Addr) (q j : Nat), cs = #[.int .i64 c.length, .int .i64 c.lateness, .int .i64 c.windows, .int .i64 c.shards, .int .i64 c.spread, .int .i64 c.queue, .int .i64 c.mode, .int .i64 c.slots, .int .i64 c.exact_, .int .u64 c.promote, .int .i64 c.depth, .int .i64 c.width, .int .i64 c.top, .int .i64 c.key, .slice C n k, .slice T q j, .int .u64 c.seed] ∧ (0 ≤ c.promote ∧ c.promote < 18446744073709551616) ∧ (0 ≤ c.seed ∧ c.seed < 18446744073709551616) ∧ Wide l ∧ Rd W W.heap.size C 2 n (prs l) := by
  obtain ⟨fuel, hf⟩ := h
  obtain ⟨xs, m, _, _, hl, hxl, hfs⟩ := DataW.trod_struct hs hf
  rw [hC] at hl
  have h1 := Deep.hone_of hone
  have hcl : cs.toList.length = 17 := by simpa [Value.cells] using hl
  obtain ⟨v0, v1, v2, v3, v4, v5, v6, v7, v8, v9, v10, v11, v12, v13, v14, v15, v16, hcs⟩ : ∃ v0 v1 v2 v3 v4 v5 v6 v7 v8 v9 v10 v11 v12 v13 v14 v15 v16 : Value, cs = #[v0, v1, v2, v3, v4, v5, v6, v7, v8, v9, v10, v11, v12, v13, v14, v15, v16] := by
    obtain ⟨cs⟩ := cs
    match cs, hcl with
    | [v0, v1, v2, v3, v4, v5, v6, v7, v8, v9, v10, v11, v12, v13, v14, v15, v16], _ => exact ⟨v0, v1, v2, v3, v4, v5, v6, v7, v8, v9, v10, v11, v12, v13, v14, v15, v16, rfl⟩
  subst hcs
  have e0 := hfs 0 f0 rfl
  rw [(h1 0 f0 rfl).1, (h1 0 f0 rfl).2, List.getElem?_eq_getElem (show 0 < xs.length by rw [hxl]; simp)] at e0
  simp only [Value.cells, List.drop_succ_cons, List.drop_zero, List.take_succ_cons, List.take_zero] at e0
  obtain ⟨a0, q0, _, w0⟩ := DataW.trod_int u0 e0
  simp only [List.cons.injEq, and_true] at q0
  subst q0
  have e1 := hfs 1 f1 rfl
  rw [(h1 1 f1 rfl).1, (h1 1 f1 rfl).2, List.getElem?_eq_getElem (show 1 < xs.length by rw [hxl]; simp)] at e1
  simp only [Value.cells, List.drop_succ_cons, List.drop_zero, List.take_succ_cons, List.take_zero] at e1
  obtain ⟨a1, q1, _, w1⟩ := DataW.trod_int u1 e1
  simp only [List.cons.injEq, and_true] at q1
  subst q1
  have e2 := hfs 2 f2 rfl
  rw [(h1 2 f2 rfl).1, (h1 2 f2 rfl).2, List.getElem?_eq_getElem (show 2 < xs.length by rw [hxl]; simp)] at e2
  simp only [Value.cells, List.drop_succ_cons, List.drop_zero, List.take_succ_cons, List.take_zero] at e2
  obtain ⟨a2, q2, _, w2⟩ := DataW.trod_int u2 e2
  simp only [List.cons.injEq, and_true] at q2
  subst q2
  have e3 := hfs 3 f3 rfl
  rw [(h1 3 f3 rfl).1, (h1 3 f3 rfl).2, List.getElem?_eq_getElem (show 3 < xs.length by rw [hxl]; simp)] at e3
  simp only [Value.cells, List.drop_succ_cons, List.drop_zero, List.take_succ_cons, List.take_zero] at e3
  obtain ⟨a3, q3, _, w3⟩ := DataW.trod_int u3 e3
  simp only [List.cons.injEq, and_true] at q3
  subst q3
  have e4 := hfs 4 f4 rfl
  rw [(h1 4 f4 rfl).1, (h1 4 f4 rfl).2, List.getElem?_eq_getElem (show 4 < xs.length by rw [hxl]; simp)] at e4
  simp only [Value.cells, List.drop_succ_cons, List.drop_zero, List.take_succ_cons, List.take_zero] at e4
  obtain ⟨a4, q4, _, w4⟩ := DataW.trod_int u4 e4
  simp only [List.cons.injEq, and_true] at q4
  subst q4
  have e5 := hfs 5 f5 rfl
  rw [(h1 5 f5 rfl).1, (h1 5 f5 rfl).2, List.getElem?_eq_getElem (show 5 < xs.length by rw [hxl]; simp)] at e5
  simp only [Value.cells, List.drop_succ_cons, List.drop_zero, List.take_succ_cons, List.take_zero] at e5
  obtain ⟨a5, q5, _, w5⟩ := DataW.trod_int u5 e5
  simp only [List.cons.injEq, and_true] at q5
  subst q5
  have e6 := hfs 6 f6 rfl
  rw [(h1 6 f6 rfl).1, (h1 6 f6 rfl).2, List.getElem?_eq_getElem (show 6 < xs.length by rw [hxl]; simp)] at e6
  simp only [Value.cells, List.drop_succ_cons, List.drop_zero, List.take_succ_cons, List.take_zero] at e6
  obtain ⟨a6, q6, _, w6⟩ := DataW.trod_int u6 e6
  simp only [List.cons.injEq, and_true] at q6
  subst q6
  have e7 := hfs 7 f7 rfl
  rw [(h1 7 f7 rfl).1, (h1 7 f7 rfl).2, List.getElem?_eq_getElem (show 7 < xs.length by rw [hxl]; simp)] at e7
  simp only [Value.cells, List.drop_succ_cons, List.drop_zero, List.take_succ_cons, List.take_zero] at e7
  obtain ⟨a7, q7, _, w7⟩ := DataW.trod_int u7 e7
  simp only [List.cons.injEq, and_true] at q7
  subst q7
  have e8 := hfs 8 f8 rfl
  rw [(h1 8 f8 rfl).1, (h1 8 f8 rfl).2, List.getElem?_eq_getElem (show 8 < xs.length by rw [hxl]; simp)] at e8
  simp only [Value.cells, List.drop_succ_cons, List.drop_zero, List.take_succ_cons, List.take_zero] at e8
  obtain ⟨a8, q8, _, w8⟩ := DataW.trod_int u8 e8
  simp only [List.cons.injEq, and_true] at q8
  subst q8
  have e9 := hfs 9 f9 rfl
  rw [(h1 9 f9 rfl).1, (h1 9 f9 rfl).2, List.getElem?_eq_getElem (show 9 < xs.length by rw [hxl]; simp)] at e9
  simp only [Value.cells, List.drop_succ_cons, List.drop_zero, List.take_succ_cons, List.take_zero] at e9
  obtain ⟨a9, q9, _, w9⟩ := DataW.trod_int u9 e9
  simp only [List.cons.injEq, and_true] at q9
  subst q9
  have e10 := hfs 10 f10 rfl
  rw [(h1 10 f10 rfl).1, (h1 10 f10 rfl).2, List.getElem?_eq_getElem (show 10 < xs.length by rw [hxl]; simp)] at e10
  simp only [Value.cells, List.drop_succ_cons, List.drop_zero, List.take_succ_cons, List.take_zero] at e10
  obtain ⟨a10, q10, _, w10⟩ := DataW.trod_int u10 e10
  simp only [List.cons.injEq, and_true] at q10
  subst q10
  have e11 := hfs 11 f11 rfl
  rw [(h1 11 f11 rfl).1, (h1 11 f11 rfl).2, List.getElem?_eq_getElem (show 11 < xs.length by rw [hxl]; simp)] at e11
  simp only [Value.cells, List.drop_succ_cons, List.drop_zero, List.take_succ_cons, List.take_zero] at e11
  obtain ⟨a11, q11, _, w11⟩ := DataW.trod_int u11 e11
  simp only [List.cons.injEq, and_true] at q11
  subst q11
  have e12 := hfs 12 f12 rfl
  rw [(h1 12 f12 rfl).1, (h1 12 f12 rfl).2, List.getElem?_eq_getElem (show 12 < xs.length by rw [hxl]; simp)] at e12
  simp only [Value.cells, List.drop_succ_cons, List.drop_zero, List.take_succ_cons, List.take_zero] at e12
  obtain ⟨a12, q12, _, w12⟩ := DataW.trod_int u12 e12
  simp only [List.cons.injEq, and_true] at q12
  subst q12
  have e13 := hfs 13 f13 rfl
  rw [(h1 13 f13 rfl).1, (h1 13 f13 rfl).2, List.getElem?_eq_getElem (show 13 < xs.length by rw [hxl]; simp)] at e13
  simp only [Value.cells, List.drop_succ_cons, List.drop_zero, List.take_succ_cons, List.take_zero] at e13
  obtain ⟨a13, q13, _, w13⟩ := DataW.trod_int u13 e13
  simp only [List.cons.injEq, and_true] at q13
  subst q13
  have e14 := hfs 14 f14 rfl
  rw [(h1 14 f14 rfl).1, (h1 14 f14 rfl).2, List.getElem?_eq_getElem (show 14 < xs.length by rw [hxl]; simp)] at e14
  simp only [Value.cells, List.drop_succ_cons, List.drop_zero, List.take_succ_cons, List.take_zero] at e14
  obtain ⟨C, n, k, l, rfl, hrd, hwl, _⟩ := trod_pairsC u14 he ce o0 o1 c0 c1 x0 x1 e14
  have e15 := hfs 15 f15 rfl
  rw [(h1 15 f15 rfl).1, (h1 15 f15 rfl).2, List.getElem?_eq_getElem (show 15 < xs.length by rw [hxl]; simp)] at e15
  simp only [Value.cells, List.drop_succ_cons, List.drop_zero, List.take_succ_cons, List.take_zero] at e15
  obtain ⟨T, q, j, rfl⟩ : ∃ (T : Option Addr) (q j : Nat), v15 = .slice T q j := by
    rcases Deep.open_slice u15 e15 with ⟨hcs, _⟩ | ⟨a, len, cap, m, n, D, Pl, hcs, _⟩
    · simp at hcs; exact ⟨_, _, _, hcs⟩
    · simp at hcs; exact ⟨_, _, _, hcs⟩
  have e16 := hfs 16 f16 rfl
  rw [(h1 16 f16 rfl).1, (h1 16 f16 rfl).2, List.getElem?_eq_getElem (show 16 < xs.length by rw [hxl]; simp)] at e16
  simp only [Value.cells, List.drop_succ_cons, List.drop_zero, List.take_succ_cons, List.take_zero] at e16
  obtain ⟨a16, q16, _, w16⟩ := DataW.trod_int u16 e16
  simp only [List.cons.injEq, and_true] at q16
  subst q16
  exact ⟨⟨a0, a1, a2, a3, a4, a5, a6, a7, a8, a9, a10, a11, a12, a13, a16⟩, l, C, n, k, T, q, j, rfl, wf_u64 w9, wf_u64 w16, hwl, hrd⟩
end
end Go.Proofs.Ytgjlibecgkhocaa
