/-
  An api.Summary as an argument. No conditions beyond those of the statement.
-/
import Derived.Test.YtaiopdipldaimaaYy
import Derived.Test.YtaiopdipldaimaaArgs
import Derived.Deep.Fields
import Derived.Deep.Matrix
set_option linter.unusedVariables false
set_option linter.unusedSimpArgs false
namespace Go.Proofs.Ytaiopdipldaimaa
open Go.RowKit Go.ChangeShapes Go.WideShapes
section
variable {H : Type} {enc : TypeId × Value → H} {P : Program} {w : World} {base : Nat} {spare : Nat → Bool} {held : Bool}
theorem trod_suu {ts : TypeId} {f0 f1 f2 : Field} {fuel : Nat} {cs : List Value} {x : DataW H × List MemPlace} (hs : P.underlying ts = some (.struct #[f0, f1, f2])) (hone : Deep.oneCellFields P #[f0, f1, f2] = true) (hC : P.cellsOf ts = 3)
    (u0 : P.underlying f0.type = some .string) (u1 : P.underlying f1.type = some (.int .u64)) (u2 : P.underlying f2.type = some (.int .u64)) (h : DataW.trod enc P w base spare held fuel ts cs = some x) :
    ∃ (s : ByteArray) (a b : Int), cs = [.string s, .int .u64 a, .int .u64 b] ∧ s.size ≤ maxLen ∧ U a ∧ U b := by
  obtain ⟨xs, n, _, _, hl, hxl, hf⟩ := DataW.trod_struct hs h
  rw [hC] at hl
  have h1 := Deep.hone_of hone
  match cs, hl with
  | [v0, v1, v2], _ =>
    match xs, hxl with
    | [y0, y1, y2], _ =>
      have g0 := hf 0 f0 rfl
      have g1 := hf 1 f1 rfl
      have g2 := hf 2 f2 rfl
      rw [(h1 0 f0 rfl).1, (h1 0 f0 rfl).2] at g0
      rw [(h1 1 f1 rfl).1, (h1 1 f1 rfl).2] at g1
      rw [(h1 2 f2 rfl).1, (h1 2 f2 rfl).2] at g2
      obtain ⟨s, e0, _, w0⟩ := DataW.trod_string u0 g0
      obtain ⟨a, e1, _, w1⟩ := DataW.trod_int u1 g1
      obtain ⟨b, e2, _, w2⟩ := DataW.trod_int u2 g2
      simp at e0 e1 e2
      subst e0 e1 e2
      exact ⟨s, a, b, rfl, w0, wf_u64 w1, wf_u64 w2⟩
end
theorem trod_linesC {H : Type} {enc : TypeId × Value → H} {P : Program} {W : World} {t e : TypeId} {f0 f1 f2 : Field} {fuel : Nat} {v : Value} {x : DataW H × List MemPlace}
    (ht : P.underlying t = some (.slice e)) (he : P.underlying e = some (.struct #[f0, f1, f2])) (u0 : P.underlying f0.type = some .string) (u1 : P.underlying f1.type = some (.int .u64)) (u2 : P.underlying f2.type = some (.int .u64))
    (hone : Deep.oneCellFields P #[f0, f1, f2] = true) (hC : P.cellsOf e = 3)
    (h : DataW.trod enc P W 0 (fun _ => true) true fuel t [v] = some x) :
    ∃ (A : Option Addr) (n c : Nat) (l : List Ln), v = .slice A n c ∧ Rd W W.heap.size A 3 n (lnCs l) ∧ (∀ x ∈ l, U x.lo ∧ U x.hi) ∧ n ≤ c := by
  rcases Deep.open_slice ht h with ⟨hcs, _⟩ | ⟨a, len, cap, m, k, D, Pl, hcs, hb, hl, hm, hmm, hx, hi⟩
  · simp at hcs
    exact ⟨none, 0, 0, [], hcs, Rd.zero rfl, by simp, by omega⟩
  · simp at hcs
    obtain ⟨n, hn0⟩ : ∃ n, n = len := ⟨_, rfl⟩
    obtain ⟨c, hc0⟩ : ∃ c, c = cap := ⟨_, rfl⟩
    subst hn0 hc0
    have hmc : m = c := by rw [hmm]; simp
    subst hmc
    have each : ∀ i, i < n → ∃ x : Ln, (∀ r u, (lnC x)[r]? = some u → W.cell? ((a.add (i * 3)).add r) = some u) ∧ U x.lo ∧ U x.hi := by
      intro i hin
      obtain ⟨cs', h1, h2⟩ := hi i (by omega)
      rw [hC] at h1
      obtain ⟨s, q1, q2, rfl, _, b1, b2⟩ := trod_suu he hone hC u0 u1 u2 h2
      obtain ⟨_, _, hcell⟩ := World.cells?_some h1
      refine ⟨⟨s, q1, q2⟩, fun r u hu => ?_, b1, b2⟩
      have hr : r < 3 := by
        have := (List.getElem?_eq_some_iff.1 hu).1
        simpa [lnC] using this
      rw [hcell r hr, ← hu]
      rfl
    haveI : Inhabited Ln := ⟨⟨⟨#[]⟩, 0, 0⟩⟩
    obtain ⟨F, hF⟩ := Deep.choose_lt each
    refine ⟨some a, n, m, (List.range n).map F, hcs, ⟨by rw [lnCs_len]; simp, fun hn => ?_⟩, fun y hy => ?_, hl⟩
    · obtain ⟨b, off, spot⟩ := a
      have h0 := (hF 0 hn).1 0 _ rfl
      have hspot : spot = none := by simpa [Addr.add] using World.cell?_spot h0
      subst hspot
      refine ⟨b, off, rfl, by simpa [Addr.add] using block_lt_of_cell h0, fun q u hu => ?_⟩
      have hq : q < n * 3 := by
        have := (List.getElem?_eq_some_iff.1 hu).1
        rw [lnCs_len] at this
        simpa using this
      have hin : q / 3 < n := by omega
      have hx : ((List.range n).map F)[q / 3]? = some (F (q / 3)) := by simp [hin]
      have hg := Fl.get lnC 3 (fun _ => rfl) _ (q / 3) (q % 3) _ hx (by omega)
      rw [show q / 3 * 3 + q % 3 = q by omega] at hg
      have := (hF (q / 3) hin).1 (q % 3) u (by rw [← hg]; exact hu)
      rw [add_plain, add_plain, Nat.add_assoc, show q / 3 * 3 + q % 3 = q by omega] at this
      exact this
    · obtain ⟨i, hi, rfl⟩ := List.mem_map.1 hy
      exact (hF i (List.mem_range.1 hi)).2
theorem trod_rowsC {H : Type} {enc : TypeId × Value → H} {P : Program} {W : World} {t e q : TypeId} {k : IntKind} {fuel : Nat} {v : Value} {x : DataW H × List MemPlace}
    (ht : P.underlying t = some (.slice e)) (he : P.underlying e = some (.slice q)) (hq : P.underlying q = some (.int k)) (hc : P.cellsOf e = 1) (hcq : P.cellsOf q = 1)
    (h : DataW.trod enc P W 0 (fun _ => true) true fuel t [v] = some x) :
    ∃ (A : Option Addr) (n c : Nat) (R : RowsF), v = .slice A n c ∧ Rd W W.heap.size A 1 n ((List.range n).map fun j => .slice (R j).1 (R j).2.1 (R j).2.2.1) ∧ RowsRd W W.heap.size k n R ∧ n ≤ c := by
  rcases Deep.open_int_rows ht he hq hc hcq h with ⟨hcs, _⟩ | ⟨x, l, c', A', L, C, Z, hcs, _, hl, hm, hx, hcell⟩
  · simp at hcs
    exact ⟨none, 0, 0, fun _ => (none, 0, 0, []), hcs, Rd.zero rfl, fun j hj => by omega, by omega⟩
  · simp at hcs
    obtain ⟨n, hn0⟩ : ∃ n, n = l := ⟨_, rfl⟩
    subst hn0
    have hcs0 := hcs
    refine ⟨some x, n, c', fun r => (A' r, L r, C r, (Z r).take (L r)), hcs0, ⟨by simp, fun hn => ?_⟩, fun r hr => ?_, hl⟩
    · obtain ⟨b, off, spot⟩ := x
      have h0 := (hcell 0 (by omega)).1
      have hspot : spot = none := by simpa [Addr.add] using World.cell?_spot h0
      subst hspot
      refine ⟨b, off, rfl, by simpa [Addr.add] using block_lt_of_cell h0, fun i u hu => ?_⟩
      have hi : i < n := by
        have := (List.getElem?_eq_some_iff.1 hu).1
        simpa using this
      have hci := (hcell i (by omega)).1
      rw [add_plain] at hci
      rw [hci, ← hu]
      simp [hi]
    · obtain ⟨_, g1, g2, g3, g4, g5, g6⟩ := hcell r (by omega)
      refine ⟨⟨by simp; omega, fun hn => ?_⟩, fun z hz => g4 z (List.mem_of_mem_take hz), g1, g2⟩
      cases hA : A' r with
      | none => have := g5 hA; simp only at hn; omega
      | some a =>
        obtain ⟨_, hc1⟩ := g6 a hA
        obtain ⟨b, off, spot⟩ := a
        simp only at hn
        have h0 := hc1 0 (by omega)
        have hspot : spot = none := by simpa [Addr.add] using World.cell?_spot h0
        subst hspot
        refine ⟨b, off, hA, by simpa [Addr.add] using block_lt_of_cell h0, fun i u hu => ?_⟩
        have hi : i < L r := by
          have := (List.getElem?_eq_some_iff.1 hu).1
          simp at this; omega
        have hci := hc1 i (by omega)
        rw [add_plain] at hci
        rw [hci, ← hu]
        simp [List.getElem?_take, hi, List.getD, show i < (Z r).length by omega]
theorem arg_sum {H : Type} {enc : TypeId × Value → H} {P : Program} {W : World} {ts eE eR eQ : TypeId} {g0 g1 g2 f0 f1 f2 f3 : Field} {cs : Array Value} {d : DataW H} {p : List MemPlace} (hs : P.underlying ts = some (.struct #[f0, f1, f2, f3])) (u0 : P.underlying f0.type = some (.int .u64)) (u1 : P.underlying f1.type = some (.slice eE)) (u2 : P.underlying f2.type = some (.int .u64)) (u3 : P.underlying f3.type = some (.slice eR))
    (he : P.underlying eE = some (.struct #[g0, g1, g2])) (v0 : P.underlying g0.type = some .string) (v1 : P.underlying g1.type = some (.int .u64)) (v2 : P.underlying g2.type = some (.int .u64)) (hone2 : Deep.oneCellFields P #[g0, g1, g2] = true) (hC2 : P.cellsOf eE = 3)
    (hr : P.underlying eR = some (.slice eQ)) (hq : P.underlying eQ = some (.int .u64)) (hcr : P.cellsOf eR = 1) (hcq : P.cellsOf eQ = 1)
    (hone : Deep.oneCellFields P #[f0, f1, f2, f3] = true) (hC : P.cellsOf ts = 4) (h : DataW.Trod enc P W 0 (fun _ => true) true ts (.agg cs) d p) :
    ∃ (tot un : Int) (A : Option Addr) (n cA : Nat) (l : List Ln) (R : Option Addr) (m cR : Nat) (F : RowsF), cs = smC tot A n cA un R m cR ∧ U tot ∧ U un ∧ Rd W W.heap.size A 3 n (lnCs l) ∧ (∀ x ∈ l, U x.lo ∧ U x.hi) ∧
      Rd W W.heap.size R 1 m ((List.range m).map fun j => .slice (F j).1 (F j).2.1 (F j).2.2.1) ∧ RowsRd W W.heap.size .u64 m F := by
  obtain ⟨fuel, hf⟩ := h
  obtain ⟨xs, mm, _, _, hl, hxl, hfs⟩ := DataW.trod_struct hs hf
  rw [hC] at hl
  have h1 := Deep.hone_of hone
  have hcl : cs.toList.length = 4 := by simpa [Value.cells] using hl
  obtain ⟨b0, b1, b2, b3, hcs⟩ : ∃ b0 b1 b2 b3 : Value, cs = #[b0, b1, b2, b3] := by
    obtain ⟨cs⟩ := cs
    match cs, hcl with
    | [b0, b1, b2, b3], _ => exact ⟨b0, b1, b2, b3, rfl⟩
  subst hcs
  have e0 := hfs 0 f0 rfl
  rw [(h1 0 f0 rfl).1, (h1 0 f0 rfl).2, List.getElem?_eq_getElem (show 0 < xs.length by rw [hxl]; simp)] at e0
  simp only [Value.cells, List.drop_succ_cons, List.drop_zero, List.take_succ_cons, List.take_zero] at e0
  obtain ⟨a0, q0, _, w0⟩ := DataW.trod_int u0 e0
  simp only [List.cons.injEq, and_true] at q0
  subst q0
  have e1 := hfs 1 f1 rfl
  rw [(h1 1 f1 rfl).1, (h1 1 f1 rfl).2, List.getElem?_eq_getElem (show 1 < xs.length by rw [hxl]; simp)] at e1
  simp only [Value.cells, List.drop_succ_cons, List.drop_zero, List.take_succ_cons, List.take_zero] at e1
  obtain ⟨A, n, cA, l, rfl, r1, n1, _⟩ := trod_linesC u1 he v0 v1 v2 hone2 hC2 e1
  have e2 := hfs 2 f2 rfl
  rw [(h1 2 f2 rfl).1, (h1 2 f2 rfl).2, List.getElem?_eq_getElem (show 2 < xs.length by rw [hxl]; simp)] at e2
  simp only [Value.cells, List.drop_succ_cons, List.drop_zero, List.take_succ_cons, List.take_zero] at e2
  obtain ⟨a2, q2, _, w2⟩ := DataW.trod_int u2 e2
  simp only [List.cons.injEq, and_true] at q2
  subst q2
  have e3 := hfs 3 f3 rfl
  rw [(h1 3 f3 rfl).1, (h1 3 f3 rfl).2, List.getElem?_eq_getElem (show 3 < xs.length by rw [hxl]; simp)] at e3
  simp only [Value.cells, List.drop_succ_cons, List.drop_zero, List.take_succ_cons, List.take_zero] at e3
  obtain ⟨R, m, cR, F, rfl, r3, rr3, _⟩ := trod_rowsC u3 hr hq hcr hcq e3
  exact ⟨a0, a2, A, n, cA, l, R, m, cR, F, rfl, wf_u64 w0, wf_u64 w2, r1, n1, r3, rr3⟩
end Go.Proofs.Ytaiopdipldaimaa
