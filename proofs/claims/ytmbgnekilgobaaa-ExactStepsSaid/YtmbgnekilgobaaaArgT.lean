/-
  Arguments that are structs of a string and two numbers, structs of two numbers, and slices of the former.
-/
import Derived.Test.YtmbgnekilgobaaaLw
import Derived.Test.YtmbgnekilgobaaaLv
import Derived.Deep.Fields
set_option linter.unusedVariables false
set_option linter.unusedSimpArgs false
namespace Go.Proofs.Ytmbgnekilgobaaa
open Go.RowKit Go.ChangeShapes Go.WideShapes
section
variable {H : Type} {enc : TypeId × Value → H} {P : Program} {w : World} {base : Nat} {spare : Nat → Bool} {held : Bool}
theorem trod_suu {ts : TypeId} {f0 f1 f2 : Field} {fuel : Nat} {cs : List Value} {x : DataW H × List MemPlace} (hs : P.underlying ts = some (.struct #[f0, f1, f2])) (hone : Deep.oneCellFields P #[f0, f1, f2] = true) (hC : P.cellsOf ts = 3)
    (u0 : P.underlying f0.type = some .string) (u1 : P.underlying f1.type = some (.int .u64)) (u2 : P.underlying f2.type = some (.int .u64)) (h : DataW.trod enc P w base spare held fuel ts cs = some x) :
    ∃ (s : ByteArray) (a b : Int), cs = [.string s, .int .u64 a, .int .u64 b] ∧ s.size ≤ maxLen ∧ U a ∧ U b := by
  obtain ⟨xs, n, _, _, hl, hxl, hf⟩ := DataW.trod_struct hs h
  rw [hC] at hl
  have h1 := Deep.hone_of hone
  match cs, hl with
  | [v0, v1, v2], _ =>
    match xs, hxl with
    | [y0, y1, y2], _ =>
      have g0 := hf 0 f0 rfl
      have g1 := hf 1 f1 rfl
      have g2 := hf 2 f2 rfl
      rw [(h1 0 f0 rfl).1, (h1 0 f0 rfl).2] at g0
      rw [(h1 1 f1 rfl).1, (h1 1 f1 rfl).2] at g1
      rw [(h1 2 f2 rfl).1, (h1 2 f2 rfl).2] at g2
      obtain ⟨s, e0, _, w0⟩ := DataW.trod_string u0 g0
      obtain ⟨a, e1, _, w1⟩ := DataW.trod_int u1 g1
      obtain ⟨b, e2, _, w2⟩ := DataW.trod_int u2 g2
      simp at e0 e1 e2
      subst e0 e1 e2
      exact ⟨s, a, b, rfl, w0, wf_u64 w1, wf_u64 w2⟩
theorem trod_uu {ts : TypeId} {f0 f1 : Field} {fuel : Nat} {cs : List Value} {x : DataW H × List MemPlace} (hs : P.underlying ts = some (.struct #[f0, f1])) (hone : Deep.oneCellFields P #[f0, f1] = true) (hC : P.cellsOf ts = 2)
    (u0 : P.underlying f0.type = some (.int .u64)) (u1 : P.underlying f1.type = some (.int .u64)) (h : DataW.trod enc P w base spare held fuel ts cs = some x) :
    ∃ (a b : Int), cs = [.int .u64 a, .int .u64 b] ∧ U a ∧ U b := by
  obtain ⟨xs, n, _, _, hl, hxl, hf⟩ := DataW.trod_struct hs h
  rw [hC] at hl
  have h1 := Deep.hone_of hone
  match cs, hl with
  | [v0, v1], _ =>
    match xs, hxl with
    | [y0, y1], _ =>
      have g0 := hf 0 f0 rfl
      have g1 := hf 1 f1 rfl
      rw [(h1 0 f0 rfl).1, (h1 0 f0 rfl).2] at g0
      rw [(h1 1 f1 rfl).1, (h1 1 f1 rfl).2] at g1
      obtain ⟨a, e0, _, w0⟩ := DataW.trod_int u0 g0
      obtain ⟨b, e1, _, w1⟩ := DataW.trod_int u1 g1
      simp at e0 e1
      subst e0 e1
      exact ⟨a, b, rfl, wf_u64 w0, wf_u64 w1⟩
/-- a struct of a string and two numbers, as an argument -/
theorem arg_suu {ts : TypeId} {f0 f1 f2 : Field} {cs : Array Value} {d : DataW H} {p : List MemPlace} (hs : P.underlying ts = some (.struct #[f0, f1, f2])) (u0 : P.underlying f0.type = some .string) (u1 : P.underlying f1.type = some (.int .u64)) (u2 : P.underlying f2.type = some (.int .u64))
    (hone : Deep.oneCellFields P #[f0, f1, f2] = true) (hC : P.cellsOf ts = 3) (h : DataW.Trod enc P w base spare held ts (.agg cs) d p) :
    ∃ (s : ByteArray) (a b : Int), cs = #[.string s, .int .u64 a, .int .u64 b] ∧ s.size ≤ maxLen ∧ U a ∧ U b := by
  obtain ⟨fuel, hf⟩ := h
  obtain ⟨s, a, b, e, h1⟩ := trod_suu hs hone hC u0 u1 u2 hf
  refine ⟨s, a, b, ?_, h1⟩
  apply Array.ext'
  simpa [Value.cells] using e
theorem arg_uu {ts : TypeId} {f0 f1 : Field} {cs : Array Value} {d : DataW H} {p : List MemPlace} (hs : P.underlying ts = some (.struct #[f0, f1])) (u0 : P.underlying f0.type = some (.int .u64)) (u1 : P.underlying f1.type = some (.int .u64))
    (hone : Deep.oneCellFields P #[f0, f1] = true) (hC : P.cellsOf ts = 2) (h : DataW.Trod enc P w base spare held ts (.agg cs) d p) :
    ∃ (a b : Int), cs = #[.int .u64 a, .int .u64 b] ∧ U a ∧ U b := by
  obtain ⟨fuel, hf⟩ := h
  obtain ⟨a, b, e, h1⟩ := trod_uu hs hone hC u0 u1 hf
  refine ⟨a, b, ?_, h1⟩
  apply Array.ext'
  simpa [Value.cells] using e
end
theorem arg_lines {H : Type} {enc : TypeId × Value → H} {P : Program} {W : World} {t e : TypeId} {f0 f1 f2 : Field} {A : Option Addr} {n c : Nat} {d : DataW H} {p : List MemPlace} {ts : List TypeId} {ds : List (DataW H)} {j : Nat}
    (ht : P.underlying t = some (.slice e)) (he : P.underlying e = some (.struct #[f0, f1, f2])) (u0 : P.underlying f0.type = some .string) (u1 : P.underlying f1.type = some (.int .u64)) (u2 : P.underlying f2.type = some (.int .u64))
    (hone : Deep.oneCellFields P #[f0, f1, f2] = true) (hC : P.cellsOf e = 3) (hby : P.bytesOf e = 32)
    (h : DataW.Trod enc P W 0 (fun _ => true) true t (.slice A n c) d p)
    (hsz : (DataW.weightsEach P ts ds).all (· ≤ reachBytes) = true) (htj : ts[j]? = some t) (hdj : ds[j]? = some d) :
    ∃ l : List Ln, Rd W W.heap.size A 3 n (lnCs l) ∧ (∀ x ∈ l, U x.lo ∧ U x.hi) ∧ n * 32 ≤ 140737488351232 ∧ n ≤ c := by
  obtain ⟨fuel, hf⟩ := h
  rcases Deep.open_slice ht hf with ⟨hcs, _⟩ | ⟨a, len, cap, m, k, D, Pl, hcs, hb, hl, hm, hmm, hx, hi⟩
  · simp [Value.cells] at hcs
    obtain ⟨rfl, rfl, rfl⟩ := hcs
    exact ⟨[], Rd.zero rfl, by simp, by omega, by omega⟩
  · simp [Value.cells] at hcs
    obtain ⟨rfl, rfl, rfl⟩ := hcs
    simp only [Prod.mk.injEq] at hx
    obtain ⟨rfl, _⟩ := hx
    have hs := sized_slice hsz htj hdj ht
    rw [hby] at hs
    simp only [List.length_map, List.length_range] at hs
    have hmc : m = c := by rw [hmm]; simp
    subst hmc
    have each : ∀ i, i < n → ∃ x : Ln, (∀ r u, (lnC x)[r]? = some u → W.cell? ((a.add (i * 3)).add r) = some u) ∧ U x.lo ∧ U x.hi := by
      intro i hin
      obtain ⟨cs', h1, h2⟩ := hi i (by omega)
      rw [hC] at h1
      obtain ⟨s, q1, q2, rfl, _, b1, b2⟩ := trod_suu he hone hC u0 u1 u2 h2
      obtain ⟨_, _, hcell⟩ := World.cells?_some h1
      refine ⟨⟨s, q1, q2⟩, fun r u hu => ?_, b1, b2⟩
      have hr : r < 3 := by
        have := (List.getElem?_eq_some_iff.1 hu).1
        simpa [lnC] using this
      rw [hcell r hr, ← hu]
      rfl
    haveI : Inhabited Ln := ⟨⟨⟨#[]⟩, 0, 0⟩⟩
    obtain ⟨F, hF⟩ := Deep.choose_lt each
    have hnb : n * 32 ≤ m * 32 := Nat.mul_le_mul_right _ hl
    refine ⟨(List.range n).map F, ⟨by rw [lnCs_len]; simp, fun hn => ?_⟩, fun y hy => ?_, by simp only [reachBytes] at hs; omega, hl⟩
    · obtain ⟨b, off, spot⟩ := a
      have h0 := (hF 0 hn).1 0 _ rfl
      have hspot : spot = none := by simpa [Addr.add] using World.cell?_spot h0
      subst hspot
      refine ⟨b, off, rfl, by simpa [Addr.add] using block_lt_of_cell h0, fun q u hu => ?_⟩
      have hq : q < n * 3 := by
        have := (List.getElem?_eq_some_iff.1 hu).1
        rw [lnCs_len] at this
        simpa using this
      have hin : q / 3 < n := by omega
      have hx : ((List.range n).map F)[q / 3]? = some (F (q / 3)) := by simp [hin]
      have hg := Fl.get lnC 3 (fun _ => rfl) _ (q / 3) (q % 3) _ hx (by omega)
      rw [show q / 3 * 3 + q % 3 = q by omega] at hg
      have := (hF (q / 3) hin).1 (q % 3) u (by rw [← hg]; exact hu)
      rw [add_plain, add_plain, Nat.add_assoc, show q / 3 * 3 + q % 3 = q by omega] at this
      exact this
    · obtain ⟨i, hi, rfl⟩ := List.mem_map.1 hy
      exact (hF i (List.mem_range.1 hi)).2
end Go.Proofs.Ytmbgnekilgobaaa
