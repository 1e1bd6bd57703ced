/-
  An argument that is a slice of structs of two integers.
-/
import Derived.Test.YtgjlibecgkhocaaAx
import Derived.Deep.SlicePairs
set_option linter.unusedVariables false
set_option linter.unusedSimpArgs false
namespace Go.Proofs.Ytgjlibecgkhocaa
open Go.RowKit Go.ChangeShapes Go.WideShapes

def intV : Value → Int
  | .int _ z => z
  | _ => 0
theorem arg_pairs {H : Type} {enc : TypeId × Value → H} {P : Program} {W : World} {t e : TypeId} {f0 f1 : Field} {A : Option Addr} {n c : Nat} {d : DataW H} {p : List MemPlace} {ts : List TypeId} {ds : List (DataW H)} {j : Nat}
    (ht : P.underlying t = some (.slice e)) (he : P.underlying e = some (.struct #[f0, f1])) (ce : P.cellsOf e = 2) (o0 : f0.offset = 0) (o1 : f1.offset = 1) (c0 : P.cellsOf f0.type = 1) (c1 : P.cellsOf f1.type = 1)
    (u0 : P.underlying f0.type = some (.int .i64)) (u1 : P.underlying f1.type = some (.int .i64)) (hby : P.bytesOf e = 16)
    (h : DataW.Trod enc P W 0 (fun _ => true) true t (.slice A n c) d p)
    (hsz : (DataW.weightsEach P ts ds).all (· ≤ reachBytes) = true) (htj : ts[j]? = some t) (hdj : ds[j]? = some d) :
    ∃ l : List (Int × Int), Rd W W.heap.size A 2 n (prs l) ∧ (∀ x ∈ l, (Lit.int .i64 x.1).wf = true ∧ (Lit.int .i64 x.2).wf = true) ∧ n * 16 ≤ 140737488351232 ∧ n ≤ c := by
  obtain ⟨fuel, hf⟩ := h
  rcases Deep.open_slice_pairs ht he ce o0 o1 c0 c1 hf with ⟨hcs, _⟩ | ⟨x, l, c', m, fu, V0, V1, D0, D1, P0, P1, hcs, _, hl, hcm, hm, hx, hcell⟩
  · simp [Value.cells] at hcs
    obtain ⟨rfl, rfl, rfl⟩ := hcs
    exact ⟨[], Rd.zero rfl, by simp, by omega, by omega⟩
  · simp [Value.cells] at hcs
    obtain ⟨rfl, rfl, rfl⟩ := hcs
    simp only [Prod.mk.injEq] at hx
    obtain ⟨rfl, _⟩ := hx
    have hs := sized_slice hsz htj hdj ht
    rw [hby] at hs
    simp only [List.length_map, List.length_range] at hs
    have hmc : m = c := by rw [hm]; simp
    subst hmc
    have hv : ∀ i, i < n → ∃ a b, V0 i = .int .i64 a ∧ V1 i = .int .i64 b ∧ (Lit.int .i64 a).wf = true ∧ (Lit.int .i64 b).wf = true := fun i hi => by
      obtain ⟨_, _, h3, h4⟩ := hcell i (by omega)
      obtain ⟨a, ha, _, hwa⟩ := DataW.trod_int u0 h3
      obtain ⟨b, hb, _, hwb⟩ := DataW.trod_int u1 h4
      simp at ha hb
      exact ⟨a, b, ha, hb, hwa, hwb⟩
    have hnb : n * 16 ≤ m * 16 := Nat.mul_le_mul_right _ hl
    refine ⟨(List.range n).map fun i => (intV (V0 i), intV (V1 i)), ⟨by rw [prs_len]; simp, fun hn => ?_⟩, fun y hy => ?_, by simp only [reachBytes] at hs; omega, hl⟩
    · obtain ⟨b, off, spot⟩ := x
      have h0 := (hcell 0 (by omega)).1
      have hspot : spot = none := by simpa [Addr.add] using World.cell?_spot h0
      subst hspot
      refine ⟨b, off, rfl, by simpa [Addr.add] using block_lt_of_cell h0, fun q u hu => ?_⟩
      have hq : q < n * 2 := by
        have := (List.getElem?_eq_some_iff.1 hu).1
        rw [prs_len] at this
        simpa using this
      obtain ⟨i, r, rfl, hr⟩ : ∃ i r, q = i * 2 + r ∧ r < 2 := ⟨q / 2, q % 2, by omega, by omega⟩
      have hi : i < n := by omega
      obtain ⟨a, b', e0, e1, _, _⟩ := hv i hi
      obtain ⟨g0, g1, _, _⟩ := hcell i (by omega)
      rw [add_plain] at g0 g1
      have hx : ((List.range n).map fun i => (intV (V0 i), intV (V1 i)))[i]? = some (intV (V0 i), intV (V1 i)) := by simp [hi]
      obtain ⟨k0, k1⟩ := prs_at hx
      rcases r with _ | _ | r
      · have : (prs ((List.range n).map fun i => (intV (V0 i), intV (V1 i))))[i * 2 + 0]? = some (.int .i64 (intV (V0 i))) := k0
        rw [this] at hu
        injection hu with hu
        rw [← hu, e0]
        rw [e0] at g0
        exact g0
      · rw [k1] at hu
        injection hu with hu
        rw [← hu, e1]
        rw [e1] at g1
        exact g1
      · omega
    · obtain ⟨i, hi, rfl⟩ := List.mem_map.1 hy
      obtain ⟨a, b', e0, e1, w0, w1⟩ := hv i (List.mem_range.1 hi)
      dsimp only
      rw [e0, e1]
      exact ⟨w0, w1⟩
end Go.Proofs.Ytgjlibecgkhocaa
