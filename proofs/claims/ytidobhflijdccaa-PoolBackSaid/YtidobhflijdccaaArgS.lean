/-
  An argument that is a slice of strings.
-/
import Derived.Test.YtidobhflijdccaaMem2
import Derived.SliceStrings
set_option linter.unusedVariables false
set_option linter.unusedSimpArgs false
namespace Go.Proofs.Ytidobhflijdccaa
open Go.RowKit Go.ChangeShapes Go.WideShapes
theorem arg_strs {H : Type} {enc : TypeId × Value → H} {P : Program} {W : World} {t e : TypeId} {A : Option Addr} {n c : Nat} {d : DataW H} {p : List MemPlace} {ts : List TypeId} {ds : List (DataW H)} {j : Nat}
    (ht : P.underlying t = some (.slice e)) (he : P.underlying e = some .string) (hc : P.cellsOf e = 1) (hby : P.bytesOf e = 16)
    (h : DataW.Trod enc P W 0 (fun _ => true) true t (.slice A n c) d p)
    (hsz : (DataW.weightsEach P ts ds).all (· ≤ reachBytes) = true) (htj : ts[j]? = some t) (hdj : ds[j]? = some d) :
    ∃ ss : List ByteArray, Rd W W.heap.size A 1 n (ss.map .string) ∧ (∀ s ∈ ss, s.size ≤ maxLen) ∧ n * 16 ≤ 140737488351232 ∧ n ≤ c := by
  obtain ⟨fuel, hf⟩ := h
  rcases open_strings ht he hc hf with ⟨hcs, _⟩ | ⟨x, l, c', zs, hcs, _, hl, hm, hz, hx, hcell, hwz⟩
  · simp [Value.cells] at hcs
    obtain ⟨rfl, rfl, rfl⟩ := hcs
    exact ⟨[], Rd.zero rfl, by simp, by omega, by omega⟩
  · simp [Value.cells] at hcs
    obtain ⟨rfl, rfl, rfl⟩ := hcs
    simp only [Prod.mk.injEq] at hx
    obtain ⟨rfl, _⟩ := hx
    have hs := sized_slice hsz htj hdj ht
    rw [hby] at hs
    have hzl : zs.length = c := by simpa using hz
    have hlen : (strs (H := H) (zs.take n)).length + (strs (H := H) (zs.drop n)).length = c := by simp [strs]; omega
    rw [hlen] at hs
    have hnb : n * 16 ≤ c * 16 := Nat.mul_le_mul_right _ hl
    refine ⟨zs.take n, ⟨by simp; omega, fun hn => ?_⟩, fun z hz' => hwz z (List.mem_of_mem_take hz'), by simp only [reachBytes] at hs; omega, hl⟩
    obtain ⟨b, off, spot⟩ := x
    have h0 := hcell 0 (by omega)
    have hspot : spot = none := by simpa [Addr.add] using World.cell?_spot h0
    subst hspot
    refine ⟨b, off, rfl, by simpa [Addr.add] using block_lt_of_cell h0, fun i u hu => ?_⟩
    have hi : i < n := by
      have := (List.getElem?_eq_some_iff.1 hu).1
      simp at this; omega
    have hci := hcell i (by omega)
    rw [add_plain] at hci
    rw [hci, ← hu]
    simp [List.getElem?_take, hi, List.getD, show i < zs.length by omega]
theorem elemStr : ElemOf Try.prog 62 9 1 16 := ElemOf.mk' (z := .string ⟨#[]⟩) Try.underlying62 (by kernel_rfl) rfl (by omega)
end Go.Proofs.Ytidobhflijdccaa
