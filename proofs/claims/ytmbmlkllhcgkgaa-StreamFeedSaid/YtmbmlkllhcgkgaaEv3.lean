/-
  The deck's lists of events.
-/
import Derived.Test.YtmbmlkllhcgkgaaEv2
set_option linter.unusedVariables false
set_option linter.unusedSimpArgs false
namespace Go.Proofs.Ytmbmlkllhcgkgaa
open Go.RowKit

theorem elemEv : ElemOf Try.prog 52 62 3 40 := ElemOf.mk' (z := .agg #[.slice none 0 0, .int .i64 0, .int .u64 0]) Try.underlying52 (by kernel_rfl) rfl (by omega)

/-- the cells of events -/
def EvCells (w : World) (base m : Nat) (cells : List Value) : Prop :=
  cells.length = m * 3 ∧ ∀ i, i < m → ∃ (A : Option Addr) (n c : Nat) (xs : List Value) (tm wt : Int), cells[i * 3]? = some (.slice A n c) ∧ cells[i * 3 + 1]? = some (.int .i64 tm) ∧ cells[i * 3 + 2]? = some (.int .u64 wt) ∧
    n ≤ 3 ∧ Own w base 68 2 A n c xs ∧ Texts 80 xs ∧ 0 ≤ tm ∧ tm ≤ 1000 ∧ 0 ≤ wt ∧ wt < 18446744073709551616
theorem EvCells.nil (w : World) (base : Nat) : EvCells w base 0 [] := ⟨rfl, fun i hi => by omega⟩
theorem EvCells.kept {w w' : World} {base m : Nat} {cells : List Value} {S : Nat → Prop} (h : EvCells w base m cells) (k : Keeps S w w')
    (hs : ∀ A n c xs, Own w base 68 2 A n c xs → ∀ b, inB A b → ¬ S b) : EvCells w' base m cells :=
  ⟨h.1, fun i hi => by
    obtain ⟨A, n, c, xs, tm, wt, h1, h2, h3, h4, h5, h6⟩ := h.2 i hi
    exact ⟨A, n, c, xs, tm, wt, h1, h2, h3, h4, h5.kept k (hs _ _ _ _ h5), h6⟩⟩
theorem EvCells.snoc {w : World} {base m : Nat} {cells : List Value} (h : EvCells w base m cells) {A : Option Addr} {n c : Nat} {xs : List Value} {tm wt : Int} (h4 : n ≤ 3) (h5 : Own w base 68 2 A n c xs) (h6 : Texts 80 xs)
    (h7 : 0 ≤ tm ∧ tm ≤ 1000) (h8 : 0 ≤ wt ∧ wt < 18446744073709551616) : EvCells w base (m + 1) (cells ++ [.slice A n c, .int .i64 tm, .int .u64 wt]) := by
  have hl := h.1
  refine ⟨by simp; omega, fun i hi => ?_⟩
  rcases Nat.lt_or_ge i m with hlt | hge
  · obtain ⟨A, n, c, xs, tm, wt, g1, g2, g3, r⟩ := h.2 i hlt
    refine ⟨A, n, c, xs, tm, wt, ?_, ?_, ?_, r⟩ <;> (rw [List.getElem?_append_left (by omega)]; assumption)
  · obtain rfl : i = m := by omega
    refine ⟨A, n, c, xs, tm, wt, ?_, ?_, ?_, h4, h5, h6, h7.1, h7.2, h8.1, h8.2⟩
    · rw [List.getElem?_append_right (by omega), show i * 3 - cells.length = 0 by omega]; rfl
    · rw [List.getElem?_append_right (by omega), show i * 3 + 1 - cells.length = 1 by omega]; rfl
    · rw [List.getElem?_append_right (by omega), show i * 3 + 2 - cells.length = 2 by omega]; rfl
theorem EvCells.one {w : World} {base m : Nat} {cells : List Value} (h : EvCells w base m cells) : ∀ u ∈ cells, u.oneCell' = true := by
  intro u hu
  obtain ⟨k, hk, rfl⟩ := List.getElem_of_mem hu
  have hl := h.1
  obtain ⟨A, n, c, xs, tm, wt, g1, g2, g3, r⟩ := h.2 (k / 3) (by omega)
  have h3 : k = k / 3 * 3 ∨ k = k / 3 * 3 + 1 ∨ k = k / 3 * 3 + 2 := by omega
  rcases h3 with e | e | e
  · have : cells[k]? = some (.slice A n c) := by rw [e]; exact g1
    rw [List.getElem?_eq_getElem hk] at this; injection this with this; rw [this]; rfl
  · have : cells[k]? = some (.int .i64 tm) := by rw [e]; exact g2
    rw [List.getElem?_eq_getElem hk] at this; injection this with this; rw [this]; rfl
  · have : cells[k]? = some (.int .u64 wt) := by rw [e]; exact g3
    rw [List.getElem?_eq_getElem hk] at this; injection this with this; rw [this]; rfl

/-- What Events gives. -/
def EvsOf (w : World) (B g : Nat) (e : Ending) (w' : World) : Prop :=
  ∃ (C : Option Addr) (m mc : Nat) (cells : List Value), e = .returned (.slice C m mc) ∧ 1 ≤ m ∧ m ≤ 3 ∧ Own w' w.heap.size 62 3 C m mc cells ∧ EvCells w' w.heap.size m cells ∧ IsDeck w' B g ∧ Keeps (· = g) w w'

set_option maxRecDepth 100000 in
set_option maxHeartbeats 1000000 in
theorem events_any (B g : Nat) (w : World) (h : IsDeck w B g) : Calls Try.prog 21 #[.pointer (some ⟨g, 0, none⟩), .int .i64 50, .int .i64 2] w (EvsOf w B g) := by
  have hgl := h.lt
  have hgB := h.le
  go_enter Try.func21, Try.ntmps21
  go_wp2_with fail
  refine (next_any 3 (by omega) (by omega) B g _ h).mono ?_
  rintro e w1 ⟨x, rfl, x0, x1, d1, k1⟩
  have K1 := hide k1
  have D1 := hide d1
  clear k1 d1 h
  go_wp2_with fail
  go_loopw [7, 8] (fun lv kv wr => ∃ (j : Nat) (kk : Int) (C : Option Addr) (mc : Nat) (cells : List Value), kv = .int .i64 kk ∧ -1 ≤ kk ∧ kk + 1 + j ≤ 3 ∧ 1 ≤ kk + 1 + j ∧ lv = .slice C j mc ∧ Own wr w.heap.size 62 3 C j mc cells ∧ EvCells wr w.heap.size j cells ∧ IsDeck wr B g ∧ Keeps (· = g) w wr) (fun _ kv _ => (intOf kv + 1).toNat)
  case atStart => exact ⟨0, x, none, 0, [], rfl, by omega, by omega, by omega, rfl, Own.nil _ _ _ _, EvCells.nil _ _, D1.out, K1.out⟩
  case round =>
    obtain ⟨j, kk, C, mc, cells, rfl, q0, q1, q2, rfl, oc, ec, d, kp⟩ := hrel
    have OC := hide oc
    have EC := hide ec
    have KP := hide kp
    have hs := kp.size
    clear oc ec kp D1 K1
    by_cases hlt : 0 ≤ kk
    · go_wp2_with fail
      refine (next_any 60 (by omega) (by omega) B g _ d).mono ?_
      rintro e w2 ⟨y, rfl, y0, y1, d2, k2⟩
      have OC2 := hide (OC.out.kept k2 (fun b hb e => by have := OC.out.inB hb; omega))
      have EC2 := hide (EC.out.kept k2 (fun A n c xs ho b hb e => by have := ho.inB hb; omega))
      have KP2 := hide (KP.out.trans k2)
      have hs2 := k2.size
      clear k2 OC EC KP d
      go_wp2_with fail
      refine (event_any _ (by omega) (by omega) B g _ d2).mono ?_
      rintro e w3 ⟨A, n, c, xs, wt, rfl, hn, o, tx, z0, z1, d3, k3⟩
      have OC3 := hide (OC2.out.kept k3 (fun b hb e => by have := OC2.out.inB hb; omega))
      have EC3 := hide (EC2.out.kept k3 (fun A n c xs ho b hb e => by have := ho.inB hb; omega))
      have KP3 := hide (KP2.out.trans k3)
      have O3 := hide (o.base_le (by omega) : Own w3 w.heap.size 68 2 A n c xs)
      have hs3 := k3.size
      have D3 := hide d3
      clear k3 OC2 EC2 KP2 o d2 d3
      go_wp2_with (at_builtin; refine wpList_app _ elemEv rfl (.tmp 17) (.tmp 26) rfl w.heap.size _ rfl (OC3.out.kept ((Keeps.refl (fun _ => False) w3).alloc _) (fun _ _ h => h)) _ (m := 1) _ rfl (Blk.rd (Blk.new_at _ _ _ _ (by first | rfl | simp)) (by rfl)) (by simp [Value.oneCell']) (by simp only [maxLen]; omega) (by omega) (by first | omega | (simp; omega)) ?_; intro A5 c5 w5 o5 k5 hA5; have O5 := hide o5; have K5 := hide k5; clear o5 k5 hA5)
      go_roundw
      case rel =>
        have kA := (Keeps.refl (fun _ => False) w3).alloc (.cells #[.slice A n c, .int .i64 (50 + y - 20), .int .u64 wt] 62)
        have kA' := (Keeps.refl (· = g) w3).alloc (.cells #[.slice A n c, .int .i64 (50 + y - 20), .int .u64 wt] 62)
        have oc := OC3.out.kept kA (fun _ _ h => h)
        have od := O3.out.kept kA (fun _ _ h => h)
        have ec := (EC3.out.kept kA (fun _ _ _ _ _ _ _ h => h)).kept K5.out (fun A n c xs ho b hb h => (ho.ne oc (by decide) hb) h)
        refine ⟨j + 1, kk - 1, A5, c5, _, by first | rfl | go_num, by omega, by omega, by omega, rfl, O5.out, ?_, ?_, ?_⟩
        · exact ec.snoc hn (od.kept K5.out (fun b hb h => (od.ne oc (by decide) hb) h)) tx (by omega) ⟨z0, z1⟩
        · exact (D3.out.quiet kA).kept K5.out (fun h => by have := OC3.out.inB h; omega) (fun b hb h => by have := OC3.out.inB h; omega)
        · exact (KP3.out.trans kA').step K5.out (fun b hb h => by have := OC3.out.inB h; omega)
      case measure => simp [intOf]; omega
    · go_wp2_with fail
      go_ret
      exact ⟨C, j, mc, cells, rfl, by omega, by omega, OC.out, EC.out, d, KP.out⟩
end Go.Proofs.Ytmbmlkllhcgkgaa
