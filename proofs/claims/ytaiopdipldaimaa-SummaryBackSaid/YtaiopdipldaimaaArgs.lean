/-
  An argument that is a slice of slices of integers.
-/
import Derived.Test.YtaiopdipldaimaaMem
import Derived.Deep.Matrix
set_option linter.unusedVariables false
set_option linter.unusedSimpArgs false
namespace Go.Proofs.Ytaiopdipldaimaa
open Go.RowKit Go.ChangeShapes Go.WideShapes

/-- n slices: an address, a length, a capacity, and the numbers -/
abbrev RowsF := Nat → Option Addr × Nat × Nat × List Int
/-- each of the first n rows reads as its numbers -/
def RowsRd (w : World) (B : Nat) (k : IntKind) (n : Nat) (R : RowsF) : Prop :=
  ∀ j, j < n → Rd w B (R j).1 1 (R j).2.1 ((R j).2.2.2.map (.int k)) ∧ (∀ z ∈ (R j).2.2.2, (Lit.int k z).wf = true) ∧ (R j).2.1 ≤ (R j).2.2.1 ∧ (R j).2.2.1 ≤ maxLen
theorem arg_rows {H : Type} {enc : TypeId × Value → H} {P : Program} {W : World} {t e q : TypeId} {k : IntKind} {A : Option Addr} {n c : Nat} {d : DataW H} {p : List MemPlace} {ts : List TypeId} {ds : List (DataW H)} {j : Nat}
    (ht : P.underlying t = some (.slice e)) (he : P.underlying e = some (.slice q)) (hq : P.underlying q = some (.int k)) (hc : P.cellsOf e = 1) (hcq : P.cellsOf q = 1) (hby : P.bytesOf e = 24)
    (h : DataW.Trod enc P W 0 (fun _ => true) true t (.slice A n c) d p)
    (hsz : (DataW.weightsEach P ts ds).all (· ≤ reachBytes) = true) (htj : ts[j]? = some t) (hdj : ds[j]? = some d) :
    ∃ R : RowsF, Rd W W.heap.size A 1 n ((List.range n).map fun j => .slice (R j).1 (R j).2.1 (R j).2.2.1) ∧ RowsRd W W.heap.size k n R ∧ n * 24 ≤ 140737488351232 ∧ n ≤ c := by
  obtain ⟨fuel, hf⟩ := h
  rcases Deep.open_int_rows ht he hq hc hcq hf with ⟨hcs, _⟩ | ⟨x, l, c', A', L, C, Z, hcs, _, hl, hm, hx, hcell⟩
  · simp [Value.cells] at hcs
    obtain ⟨rfl, rfl, rfl⟩ := hcs
    exact ⟨fun _ => (none, 0, 0, []), Rd.zero rfl, fun j hj => by omega, by omega, by omega⟩
  · simp [Value.cells] at hcs
    obtain ⟨rfl, rfl, rfl⟩ := hcs
    simp only [Prod.mk.injEq] at hx
    obtain ⟨rfl, _⟩ := hx
    have hs := sized_slice hsz htj hdj ht
    rw [hby] at hs
    simp only [List.length_map, List.length_range] at hs
    refine ⟨fun r => (A' r, L r, C r, (Z r).take (L r)), ⟨by simp, fun hn => ?_⟩, fun r hr => ?_, by simp only [reachBytes] at hs; omega, hl⟩
    · obtain ⟨b, off, spot⟩ := x
      have h0 := (hcell 0 (by omega)).1
      have hspot : spot = none := by simpa [Addr.add] using World.cell?_spot h0
      subst hspot
      refine ⟨b, off, rfl, by simpa [Addr.add] using block_lt_of_cell h0, fun i u hu => ?_⟩
      have hi : i < n := by
        have := (List.getElem?_eq_some_iff.1 hu).1
        simpa using this
      have hci := (hcell i (by omega)).1
      rw [add_plain] at hci
      rw [hci, ← hu]
      simp [hi]
    · obtain ⟨_, g1, g2, g3, g4, g5, g6⟩ := hcell r (by omega)
      refine ⟨⟨by simp; omega, fun hn => ?_⟩, fun z hz => g4 z (List.mem_of_mem_take hz), g1, g2⟩
      cases hA : A' r with
      | none => have := g5 hA; simp only at hn; omega
      | some a =>
        obtain ⟨_, hc1⟩ := g6 a hA
        obtain ⟨b, off, spot⟩ := a
        simp only at hn
        have h0 := hc1 0 (by omega)
        have hspot : spot = none := by simpa [Addr.add] using World.cell?_spot h0
        subst hspot
        refine ⟨b, off, hA, by simpa [Addr.add] using block_lt_of_cell h0, fun i u hu => ?_⟩
        have hi : i < L r := by
          have := (List.getElem?_eq_some_iff.1 hu).1
          simp at this; omega
        have hci := hc1 i (by omega)
        rw [add_plain] at hci
        rw [hci, ← hu]
        simp [List.getElem?_take, hi, List.getD, show i < (Z r).length by omega]
end Go.Proofs.Ytaiopdipldaimaa
