/-
  The law's guard on a summary that is an argument. No conditions beyond those of the statement. The law's awake: the example of the chapter. No conditions beyond those of the statement. An api.Summary as an argument. No conditions beyond those of the statement.
-/
import Derived.Test.YtaiopdipldaimaaGD
import Derived.Test.YtaiopdipldaimaaGE
import Derived.Test.YtaiopdipldaimaaArgs
import Derived.Deep.Fields
import Derived.Deep.Matrix
set_option linter.unusedVariables false
set_option linter.unusedSimpArgs false
namespace Go.Proofs.Ytaiopdipldaimaa
open Go.RowKit Cfp
/-- what the guard says -/
def Plain21 (n m : Nat) (l : List Ln) (F : RowsF) : Prop := n ≤ 120 ∧ m ≤ 8 ∧ (∀ x ∈ l, x.key.size ≤ 300) ∧ ∀ j, j < m → (F j).2.1 ≤ 300
def Plains (w : World) (n m : Nat) (l : List Ln) (F : RowsF) (e : Ending) (w' : World) : Prop := ∃ bv, e = .returned (.bool bv) ∧ (bv = true → Plain21 n m l F) ∧ Keeps (fun _ => False) w w'
set_option maxRecDepth 100000 in
set_option maxHeartbeats 1000000 in
theorem plain_any (w : World) (B : Nat) (tot un : Int) (A R : Option Addr) (n cA m cR : Nat) (l : List Ln) (F : RowsF) (hr : Rd w B A 3 n (lnCs l)) (hR : Rd w B R 1 m ((List.range m).map fun j => .slice (F j).1 (F j).2.1 (F j).2.2.1)) (hB : B ≤ w.heap.size) :
    Calls Try.prog 22 #[smV tot A n cA un R m cR] w (Plains w n m l F) := by
  obtain ⟨w2, hw2⟩ : ∃ w2, w2 = w.alloc (.cells (smC tot A n cA un R m cR) 45) := ⟨_, rfl⟩
  have k2 : Keeps (fun _ => False) w w2 := by rw [hw2]; exact (Keeps.refl _ _).alloc _
  have b3 : Blk w2 w.heap.size 45 (smC tot A n cA un R m cR) := by rw [hw2]; exact Blk.new _ _ _
  have HL := hide (hr.kept k2 (fun _ _ h => h))
  have HRo := hide (hR.kept k2 (fun _ _ h => h))
  have HLN := hide (lnRd_len hr)
  have s1 : w2.cell? ⟨w.heap.size, 1, none⟩ = some (.slice A n cA) := b3.cell 1
  have s3 : w2.cell? ⟨w.heap.size, 3, none⟩ = some (.slice R m cR) := b3.cell 3
  have B3 := hide b3
  have K2 := hide k2
  have HW2 := hide hw2
  clear hw2 k2 b3 hr hR
  rcases g1 : decide ((120 : Int) < (n : Int)) with _ | _
  rotate_left
  · go_enter Try.func22, Try.ntmps22
    go_upto_region 1 with fail
    rw [← HW2.out]
    go_wp2_with fail
    go_ret
    exact ⟨false, rfl, fun h => (by cases h), K2.out⟩
  rcases g2 : decide ((8 : Int) < (m : Int)) with _ | _
  rotate_left
  · go_enter Try.func22, Try.ntmps22
    go_upto_region 1 with fail
    rw [← HW2.out]
    go_wp2_with fail
    go_ret
    exact ⟨false, rfl, fun h => (by cases h), K2.out⟩
  have hn : n ≤ 120 := by simp at g1; omega
  have hm : m ≤ 8 := by simp at g2; omega
  go_enter Try.func22, Try.ntmps22
  go_upto_region 1 with fail
  rw [← HW2.out]
  clear HW2
  generalize hgs : w.heap.size = gs at *
  go_wp2_with fail
  trace "LOOPA"
  go_loopw [20] (fun iv wr => ∃ i : Nat, i ≤ n ∧ iv = .int .i64 i ∧ Hid (∀ x ∈ l.take i, x.key.size ≤ 300) ∧ Hid (Keeps (fun _ => False) w2 wr)) (fun iv _ => n - (intOf iv).toNat)
  case atStart => exact ⟨0, by omega, rfl, hide (fun x hx => by simp at hx), hide (Keeps.refl _ _)⟩
  case round =>
    obtain ⟨i, hi, rfl, HJ, KR⟩ := hrel
    by_cases hlt : i < n
    · have HLT : Hid (i + 1 ≤ n) := hlt
      obtain ⟨x, hx⟩ : ∃ x, l[i]? = some x := ⟨l[i]'(by rw [HLN.out]; exact hlt), by simp⟩
      obtain ⟨b, off, rfl, hbB, c0, c1, c2⟩ := lnRd_at (HL.out.kept KR.out (fun _ _ h => h)) hx (by omega)
      have hsz := KR.out.size
      have h2s := K2.out.size
      have hbz : b < wr.heap.size := by omega
      have hiI : (i : Int) < (n : Int) := by omega
      have hi0 : (0 : Int) ≤ (i : Int) := by omega
      have HX := hide hx
      clear hx
      by_cases hs : x.key.size ≤ 300
      · have e4 : ¬ ((300 : Int) < (x.key.size : Int)) := by omega
        have HS := hide hs
        clear hs
        go_wp2_with fail
        go_roundw
        case rel =>
          refine ⟨i + 1, HLT.out, by go_num, hide (fun y hy => ?_), hide (KR.out.alloc _)⟩
          rw [List.take_add_one, HX.out] at hy
          rcases List.mem_append.1 hy with h | h
          · exact HJ.out y h
          · obtain rfl : y = x := by simpa using h
            exact HS.out
        case measure => have := HLT.out; simp [intOf]; omega
      · have e4 : (300 : Int) < (x.key.size : Int) := by omega
        clear hs
        go_wp2_with fail
        go_ret
        exact ⟨false, rfl, fun h => (by cases h), K2.out.trans (KR.out.alloc _)⟩
    · obtain rfl : i = n := by omega
      have HKs : Hid (∀ x ∈ l, x.key.size ≤ 300) := hide (by have := HJ.out; rwa [List.take_of_length_le (by rw [HLN.out]; exact Nat.le_refl _)] at this)
      have s3' := KR.out.cell_some s3 (fun h => h)
      have KX := hide (K2.out.trans KR.out)
      have HRr := hide (HRo.out.kept KR.out (fun _ _ h => h))
      obtain ⟨wx, rfl⟩ : ∃ wx : World, wx = wr := ⟨_, rfl⟩
      clear HJ KR K2 HRo HL s1 s3
      go_wp2_with fail
      trace "LOOPB"
      go_loopw [32] (fun iv wr => ∃ t : Nat, t ≤ m ∧ iv = .int .i64 t ∧ Hid (∀ j, j < t → (F j).2.1 ≤ 300) ∧ Hid (Keeps (fun _ => False) wx wr)) (fun iv _ => m - (intOf iv).toNat)
      case atStart => exact ⟨0, by omega, rfl, hide (fun j h => by omega), hide (Keeps.refl _ _)⟩
      case round =>
        obtain ⟨t, ht, rfl, HJ, KR⟩ := hrel
        by_cases hlt : t < m
        · have HLT : Hid (t + 1 ≤ m) := hlt
          obtain ⟨b, off, rfl, hbB, hc⟩ := (HRr.out.kept KR.out (fun _ _ h => h)).2 (by omega)
          have c0 := hc t (.slice (F t).1 (F t).2.1 (F t).2.2.1) (by simp [hlt])
          have hiI : (t : Int) < (m : Int) := by omega
          have hi0 : (0 : Int) ≤ (t : Int) := by omega
          obtain ⟨rl, hrl⟩ : ∃ rl, rl = (F t).2.1 := ⟨_, rfl⟩
          rw [← hrl] at c0
          have HRL := hide hrl
          clear hc hrl
          by_cases hs : rl ≤ 300
          · have e4 : ¬ ((300 : Int) < (rl : Int)) := by omega
            have HS := hide hs
            clear hs
            go_wp2_with fail
            go_roundw
            case rel =>
              refine ⟨t + 1, HLT.out, by go_num, hide (fun j hj => ?_), KR⟩
              rcases Nat.lt_or_ge j t with h | h
              · exact HJ.out j h
              · obtain rfl : j = t := by omega
                rw [← HRL.out]; exact HS.out
            case measure => have := HLT.out; simp [intOf]; omega
          · have e4 : (300 : Int) < (rl : Int) := by omega
            clear hs
            go_wp2_with fail
            go_ret
            exact ⟨false, rfl, fun h => (by cases h), KX.out.trans KR.out⟩
        · obtain rfl : t = m := by omega
          go_wp2_with fail
          go_ret
          exact ⟨true, rfl, fun _ => ⟨hn, hm, HKs.out, HJ.out⟩, KX.out.trans KR.out⟩
end Go.Proofs.Ytaiopdipldaimaa

set_option linter.unusedVariables false
set_option linter.unusedSimpArgs false
namespace Go.Proofs.Ytaiopdipldaimaa
open Go.RowKit Vp enc21
def exE : Ln := ⟨⟨#[97]⟩, 5, 0⟩
def exB : List UInt8 := [5, 0, 1, 1, 97, 5, 0, 0]
theorem ex_err : encErr [exE] [] = 0 := by decide
theorem ex_all : encAll 5 0 [exE] [] = exB := by decide
set_option maxRecDepth 100000 in
set_option maxHeartbeats 1000000 in
theorem awake21 (w : World) : Calls Try.prog 23 #[] w fun e w' => e = .returned (.bool true) ∧ Keeps (fun _ => False) w w' := by
  obtain ⟨w1, hw1⟩ : ∃ v, v = w.alloc (.cells #[.string ⟨#[97]⟩, .int .u64 5, .int .u64 0] 99) := ⟨_, rfl⟩
  have k1 : Keeps (fun _ => False) w w1 := by rw [hw1]; exact (Keeps.refl _ _).alloc _
  have b1 : Blk w1 w.heap.size 99 #[.string ⟨#[97]⟩, .int .u64 5, .int .u64 0] := by rw [hw1]; exact Blk.new _ _ _
  have hS : SmIn w1 w1.heap.size (some ⟨w.heap.size, 0, none⟩) 1 [exE] none 0 (fun _ => (none, 0, 0, [])) := ⟨rfl, b1.rd (xs := lnCs [exE]) (n := 1) (sz := 3) rfl, Rd.zero rfl, fun j hj => by omega, fun x hx => by
    obtain rfl : x = exE := by simpa using hx
    exact ⟨⟨by decide, by decide⟩, ⟨by decide, by decide⟩, by decide⟩, by omega, by omega⟩
  have HE := hide (encode_any w1 w1.heap.size 5 0 _ none 1 1 0 0 [exE] _ hS (Nat.le_refl _) ⟨by omega, by omega⟩ ⟨by omega, by omega⟩)
  have K1 := hide k1
  have HW1 := hide hw1
  clear hw1 k1 b1 hS
  go_enter Try.func23, Try.ntmps23
  go_wp2_with fail
  rw [← HW1.out]
  trace "ENC"
  refine HE.out.mono ?_
  rintro e w2 ⟨A, n, c, rfl, hn, _, _, hr, k2⟩
  have e0 : encErr [exE] (Cmp.rowsL (fun _ => (none, 0, 0, [])) 0) = 0 := ex_err
  have ea : encAll 5 0 [exE] (Cmp.rowsL (fun _ => (none, 0, 0, [])) 0) = exB := ex_all
  rw [e0, if_pos rfl, ea] at hr hn
  rw [e0]
  have hn8 : n = 8 := hn
  subst hn8
  have HR := hide hr
  have K2 := hide (K1.out.trans k2)
  have B2 := hide (Blk.new w2 5 (exB.map by8).toArray)
  have kA := (Keeps.refl (fun _ => False) w2).alloc (.cells (exB.map by8).toArray 5)
  have HSm := hide (same_any exB exB A (some ⟨w2.heap.size, 0, none⟩) 8 8 c 8 _ _ _ (hr.kept kA (fun _ _ h => h)) (B2.out.rd (n := 8) (sz := 1) rfl) (by omega) (by omega))
  have KA := hide (K2.out.trans kA)
  clear hr hn k2 kA HW1 HE e0 ea
  go_wp2_with fail
  trace "SAME"
  refine HSm.out.mono ?_
  rintro e w3 ⟨rfl, nq, rfl⟩
  simp only [decide_true]
  go_wp2_with fail
  go_ret
  exact ⟨rfl, KA.out.drewN nq⟩
end Go.Proofs.Ytaiopdipldaimaa

set_option linter.unusedVariables false
set_option linter.unusedSimpArgs false
namespace Go.Proofs.Ytaiopdipldaimaa
open Go.RowKit Go.ChangeShapes Go.WideShapes
section
variable {H : Type} {enc : TypeId × Value → H} {P : Program} {w : World} {base : Nat} {spare : Nat → Bool} {held : Bool}
theorem trod_suu {ts : TypeId} {f0 f1 f2 : Field} {fuel : Nat} {cs : List Value} {x : DataW H × List MemPlace} (hs : P.underlying ts = some (.struct #[f0, f1, f2])) (hone : Deep.oneCellFields P #[f0, f1, f2] = true) (hC : P.cellsOf ts = 3)
    (u0 : P.underlying f0.type = some .string) (u1 : P.underlying f1.type = some (.int .u64)) (u2 : P.underlying f2.type = some (.int .u64)) (h : DataW.trod enc P w base spare held fuel ts cs = some x) :
    ∃ (s : ByteArray) (a b : Int), cs = [.string s, .int .u64 a, .int .u64 b] ∧ s.size ≤ maxLen ∧ U a ∧ U b := by
  obtain ⟨xs, n, _, _, hl, hxl, hf⟩ := DataW.trod_struct hs h
  rw [hC] at hl
  have h1 := Deep.hone_of hone
  match cs, hl with
  | [v0, v1, v2], _ =>
    match xs, hxl with
    | [y0, y1, y2], _ =>
      have g0 := hf 0 f0 rfl
      have g1 := hf 1 f1 rfl
      have g2 := hf 2 f2 rfl
      rw [(h1 0 f0 rfl).1, (h1 0 f0 rfl).2] at g0
      rw [(h1 1 f1 rfl).1, (h1 1 f1 rfl).2] at g1
      rw [(h1 2 f2 rfl).1, (h1 2 f2 rfl).2] at g2
      obtain ⟨s, e0, _, w0⟩ := DataW.trod_string u0 g0
      obtain ⟨a, e1, _, w1⟩ := DataW.trod_int u1 g1
      obtain ⟨b, e2, _, w2⟩ := DataW.trod_int u2 g2
      simp at e0 e1 e2
      subst e0 e1 e2
      exact ⟨s, a, b, rfl, w0, wf_u64 w1, wf_u64 w2⟩
end
theorem trod_linesC {H : Type} {enc : TypeId × Value → H} {P : Program} {W : World} {t e : TypeId} {f0 f1 f2 : Field} {fuel : Nat} {v : Value} {x : DataW H × List MemPlace}
    (ht : P.underlying t = some (.slice e)) (he : P.underlying e = some (.struct #[f0, f1, f2])) (u0 : P.underlying f0.type = some .string) (u1 : P.underlying f1.type = some (.int .u64)) (u2 : P.underlying f2.type = some (.int .u64))
    (hone : Deep.oneCellFields P #[f0, f1, f2] = true) (hC : P.cellsOf e = 3)
    (h : DataW.trod enc P W 0 (fun _ => true) true fuel t [v] = some x) :
    ∃ (A : Option Addr) (n c : Nat) (l : List Ln), v = .slice A n c ∧ Rd W W.heap.size A 3 n (lnCs l) ∧ (∀ x ∈ l, U x.lo ∧ U x.hi) ∧ n ≤ c := by
  rcases Deep.open_slice ht h with ⟨hcs, _⟩ | ⟨a, len, cap, m, k, D, Pl, hcs, hb, hl, hm, hmm, hx, hi⟩
  · simp at hcs
    exact ⟨none, 0, 0, [], hcs, Rd.zero rfl, by simp, by omega⟩
  · simp at hcs
    obtain ⟨n, hn0⟩ : ∃ n, n = len := ⟨_, rfl⟩
    obtain ⟨c, hc0⟩ : ∃ c, c = cap := ⟨_, rfl⟩
    subst hn0 hc0
    have hmc : m = c := by rw [hmm]; simp
    subst hmc
    have each : ∀ i, i < n → ∃ x : Ln, (∀ r u, (lnC x)[r]? = some u → W.cell? ((a.add (i * 3)).add r) = some u) ∧ U x.lo ∧ U x.hi := by
      intro i hin
      obtain ⟨cs', h1, h2⟩ := hi i (by omega)
      rw [hC] at h1
      obtain ⟨s, q1, q2, rfl, _, b1, b2⟩ := trod_suu he hone hC u0 u1 u2 h2
      obtain ⟨_, _, hcell⟩ := World.cells?_some h1
      refine ⟨⟨s, q1, q2⟩, fun r u hu => ?_, b1, b2⟩
      have hr : r < 3 := by
        have := (List.getElem?_eq_some_iff.1 hu).1
        simpa [lnC] using this
      rw [hcell r hr, ← hu]
      rfl
    haveI : Inhabited Ln := ⟨⟨⟨#[]⟩, 0, 0⟩⟩
    obtain ⟨F, hF⟩ := Deep.choose_lt each
    refine ⟨some a, n, m, (List.range n).map F, hcs, ⟨by rw [lnCs_len]; simp, fun hn => ?_⟩, fun y hy => ?_, hl⟩
    · obtain ⟨b, off, spot⟩ := a
      have h0 := (hF 0 hn).1 0 _ rfl
      have hspot : spot = none := by simpa [Addr.add] using World.cell?_spot h0
      subst hspot
      refine ⟨b, off, rfl, by simpa [Addr.add] using block_lt_of_cell h0, fun q u hu => ?_⟩
      have hq : q < n * 3 := by
        have := (List.getElem?_eq_some_iff.1 hu).1
        rw [lnCs_len] at this
        simpa using this
      have hin : q / 3 < n := by omega
      have hx : ((List.range n).map F)[q / 3]? = some (F (q / 3)) := by simp [hin]
      have hg := Fl.get lnC 3 (fun _ => rfl) _ (q / 3) (q % 3) _ hx (by omega)
      rw [show q / 3 * 3 + q % 3 = q by omega] at hg
      have := (hF (q / 3) hin).1 (q % 3) u (by rw [← hg]; exact hu)
      rw [add_plain, add_plain, Nat.add_assoc, show q / 3 * 3 + q % 3 = q by omega] at this
      exact this
    · obtain ⟨i, hi, rfl⟩ := List.mem_map.1 hy
      exact (hF i (List.mem_range.1 hi)).2
theorem trod_rowsC {H : Type} {enc : TypeId × Value → H} {P : Program} {W : World} {t e q : TypeId} {k : IntKind} {fuel : Nat} {v : Value} {x : DataW H × List MemPlace}
    (ht : P.underlying t = some (.slice e)) (he : P.underlying e = some (.slice q)) (hq : P.underlying q = some (.int k)) (hc : P.cellsOf e = 1) (hcq : P.cellsOf q = 1)
    (h : DataW.trod enc P W 0 (fun _ => true) true fuel t [v] = some x) :
    ∃ (A : Option Addr) (n c : Nat) (R : RowsF), v = .slice A n c ∧ Rd W W.heap.size A 1 n ((List.range n).map fun j => .slice (R j).1 (R j).2.1 (R j).2.2.1) ∧ RowsRd W W.heap.size k n R ∧ n ≤ c := by
  rcases Deep.open_int_rows ht he hq hc hcq h with ⟨hcs, _⟩ | ⟨x, l, c', A', L, C, Z, hcs, _, hl, hm, hx, hcell⟩
  · simp at hcs
    exact ⟨none, 0, 0, fun _ => (none, 0, 0, []), hcs, Rd.zero rfl, fun j hj => by omega, by omega⟩
  · simp at hcs
    obtain ⟨n, hn0⟩ : ∃ n, n = l := ⟨_, rfl⟩
    subst hn0
    have hcs0 := hcs
    refine ⟨some x, n, c', fun r => (A' r, L r, C r, (Z r).take (L r)), hcs0, ⟨by simp, fun hn => ?_⟩, fun r hr => ?_, hl⟩
    · obtain ⟨b, off, spot⟩ := x
      have h0 := (hcell 0 (by omega)).1
      have hspot : spot = none := by simpa [Addr.add] using World.cell?_spot h0
      subst hspot
      refine ⟨b, off, rfl, by simpa [Addr.add] using block_lt_of_cell h0, fun i u hu => ?_⟩
      have hi : i < n := by
        have := (List.getElem?_eq_some_iff.1 hu).1
        simpa using this
      have hci := (hcell i (by omega)).1
      rw [add_plain] at hci
      rw [hci, ← hu]
      simp [hi]
    · obtain ⟨_, g1, g2, g3, g4, g5, g6⟩ := hcell r (by omega)
      refine ⟨⟨by simp; omega, fun hn => ?_⟩, fun z hz => g4 z (List.mem_of_mem_take hz), g1, g2⟩
      cases hA : A' r with
      | none => have := g5 hA; simp only at hn; omega
      | some a =>
        obtain ⟨_, hc1⟩ := g6 a hA
        obtain ⟨b, off, spot⟩ := a
        simp only at hn
        have h0 := hc1 0 (by omega)
        have hspot : spot = none := by simpa [Addr.add] using World.cell?_spot h0
        subst hspot
        refine ⟨b, off, hA, by simpa [Addr.add] using block_lt_of_cell h0, fun i u hu => ?_⟩
        have hi : i < L r := by
          have := (List.getElem?_eq_some_iff.1 hu).1
          simp at this; omega
        have hci := hc1 i (by omega)
        rw [add_plain] at hci
        rw [hci, ← hu]
        simp [List.getElem?_take, hi, List.getD, show i < (Z r).length by omega]
theorem arg_sum {H : Type} {enc : TypeId × Value → H} {P : Program} {W : World} {ts eE eR eQ : TypeId} {g0 g1 g2 f0 f1 f2 f3 : Field} {cs : Array Value} {d : DataW H} {p : List MemPlace} (hs : P.underlying ts = some (.struct #[f0, f1, f2, f3])) (u0 : P.underlying f0.type = some (.int .u64)) (u1 : P.underlying f1.type = some (.slice eE)) (u2 : P.underlying f2.type = some (.int .u64)) (u3 : P.underlying f3.type = some (.slice eR))
    (he : P.underlying eE = some (.struct #[g0, g1, g2])) (v0 : P.underlying g0.type = some .string) (v1 : P.underlying g1.type = some (.int .u64)) (v2 : P.underlying g2.type = some (.int .u64)) (hone2 : Deep.oneCellFields P #[g0, g1, g2] = true) (hC2 : P.cellsOf eE = 3)
    (hr : P.underlying eR = some (.slice eQ)) (hq : P.underlying eQ = some (.int .u64)) (hcr : P.cellsOf eR = 1) (hcq : P.cellsOf eQ = 1)
    (hone : Deep.oneCellFields P #[f0, f1, f2, f3] = true) (hC : P.cellsOf ts = 4) (h : DataW.Trod enc P W 0 (fun _ => true) true ts (.agg cs) d p) :
    ∃ (tot un : Int) (A : Option Addr) (n cA : Nat) (l : List Ln) (R : Option Addr) (m cR : Nat) (F : RowsF), cs = smC tot A n cA un R m cR ∧ U tot ∧ U un ∧ Rd W W.heap.size A 3 n (lnCs l) ∧ (∀ x ∈ l, U x.lo ∧ U x.hi) ∧
      Rd W W.heap.size R 1 m ((List.range m).map fun j => .slice (F j).1 (F j).2.1 (F j).2.2.1) ∧ RowsRd W W.heap.size .u64 m F := by
  obtain ⟨fuel, hf⟩ := h
  obtain ⟨xs, mm, _, _, hl, hxl, hfs⟩ := DataW.trod_struct hs hf
  rw [hC] at hl
  have h1 := Deep.hone_of hone
  have hcl : cs.toList.length = 4 := by simpa [Value.cells] using hl
  obtain ⟨b0, b1, b2, b3, hcs⟩ : ∃ b0 b1 b2 b3 : Value, cs = #[b0, b1, b2, b3] := by
    obtain ⟨cs⟩ := cs
    match cs, hcl with
    | [b0, b1, b2, b3], _ => exact ⟨b0, b1, b2, b3, rfl⟩
  subst hcs
  have e0 := hfs 0 f0 rfl
  rw [(h1 0 f0 rfl).1, (h1 0 f0 rfl).2, List.getElem?_eq_getElem (show 0 < xs.length by rw [hxl]; simp)] at e0
  simp only [Value.cells, List.drop_succ_cons, List.drop_zero, List.take_succ_cons, List.take_zero] at e0
  obtain ⟨a0, q0, _, w0⟩ := DataW.trod_int u0 e0
  simp only [List.cons.injEq, and_true] at q0
  subst q0
  have e1 := hfs 1 f1 rfl
  rw [(h1 1 f1 rfl).1, (h1 1 f1 rfl).2, List.getElem?_eq_getElem (show 1 < xs.length by rw [hxl]; simp)] at e1
  simp only [Value.cells, List.drop_succ_cons, List.drop_zero, List.take_succ_cons, List.take_zero] at e1
  obtain ⟨A, n, cA, l, rfl, r1, n1, _⟩ := trod_linesC u1 he v0 v1 v2 hone2 hC2 e1
  have e2 := hfs 2 f2 rfl
  rw [(h1 2 f2 rfl).1, (h1 2 f2 rfl).2, List.getElem?_eq_getElem (show 2 < xs.length by rw [hxl]; simp)] at e2
  simp only [Value.cells, List.drop_succ_cons, List.drop_zero, List.take_succ_cons, List.take_zero] at e2
  obtain ⟨a2, q2, _, w2⟩ := DataW.trod_int u2 e2
  simp only [List.cons.injEq, and_true] at q2
  subst q2
  have e3 := hfs 3 f3 rfl
  rw [(h1 3 f3 rfl).1, (h1 3 f3 rfl).2, List.getElem?_eq_getElem (show 3 < xs.length by rw [hxl]; simp)] at e3
  simp only [Value.cells, List.drop_succ_cons, List.drop_zero, List.take_succ_cons, List.take_zero] at e3
  obtain ⟨R, m, cR, F, rfl, r3, rr3, _⟩ := trod_rowsC u3 hr hq hcr hcq e3
  exact ⟨a0, a2, A, n, cA, l, R, m, cR, F, rfl, wf_u64 w0, wf_u64 w2, r1, n1, r3, rr3⟩
end Go.Proofs.Ytaiopdipldaimaa
