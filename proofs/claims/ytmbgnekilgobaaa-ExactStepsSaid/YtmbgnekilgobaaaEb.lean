/-
  The exact store: New, Len, Get. No conditions beyond those of the statement.
-/
import Derived.Test.YtmbgnekilgobaaaEa
import Derived.Test.YtmbgnekilgobaaaSat
set_option linter.unusedVariables false
set_option linter.unusedSimpArgs false
namespace Go.Proofs.Ytmbgnekilgobaaa
open Go.RowKit
/-- an entry as a value -/
abbrev enV (x : Ln) : Value := .agg #[.string x.key, .int .u64 x.lo, .int .u64 x.hi]
abbrev en0 : Ln := ⟨⟨#[]⟩, 0, 0⟩
theorem Lns.len_en {w : World} {B n c : Nat} {A : Option Addr} {l : List Ln} (h : Ens w B A n c l) : l.length = n := by
  have := Own.len h
  rw [lnCs_len] at this
  omega
theorem en_at {w : World} {B g n c : Nat} {l : List Ln} (h : Ens w B (some ⟨g, 0, none⟩) n c l) {i : Nat} {x : Ln} (hx : l[i]? = some x) :
    w.cell? ⟨g, i * 3, none⟩ = some (.string x.key) ∧ w.cell? ⟨g, i * 3 + 1, none⟩ = some (.int .u64 x.lo) ∧ w.cell? ⟨g, i * 3 + 2, none⟩ = some (.int .u64 x.hi) := by
  have hi := (List.getElem?_eq_some_iff.1 hx).1
  have hl := Lns.len_en h
  obtain ⟨g0, g1, g2⟩ := lnCs_at hx
  exact ⟨(h.cell _ (by omega)).trans g0, (h.cell _ (by omega)).trans g1, (h.cell _ (by omega)).trans g2⟩
/-- what Get gives -/
def getE (l : List Ln) (k : ByteArray) : Ln := if foundK l k then (l[posK l k]?).getD en0 else en0
theorem getE_no {l : List Ln} {k : ByteArray} (h : foundK l k = false) : getE l k = en0 := by unfold getE; rw [h]; rfl
theorem getE_yes {l : List Ln} {k : ByteArray} (h : foundK l k = true) : l[posK l k]? = some (getE l k) ∧ (getE l k).key = k := by
  unfold getE
  rw [h]
  unfold foundK at h
  split at h
  · rename_i x hx
    rw [hx]
    exact ⟨rfl, (cmp_zero _ _).1 h⟩
  · cases h
theorem set_en {w : World} {g : Nat} {t : TypeId} {x : Ln} (h : Blk w g t (lnC x).toArray) (y : Ln) :
    Blk (((w.setCell ⟨g, 0, none⟩ (.string y.key)).setCell ⟨g, 1, none⟩ (.int .u64 y.lo)).setCell ⟨g, 2, none⟩ (.int .u64 y.hi)) g t (lnC y).toArray ∧ Keeps (· = g) w (((w.setCell ⟨g, 0, none⟩ (.string y.key)).setCell ⟨g, 1, none⟩ (.int .u64 y.lo)).setCell ⟨g, 2, none⟩ (.int .u64 y.hi)) :=
  ⟨((h.set 0 _).set 1 _).set 2 _, (((Keeps.refl _ _).setCell (S := (· = g)) (p := ⟨g, 0, none⟩) (.inl rfl) _).setCell (p := ⟨g, 1, none⟩) (.inl rfl) _).setCell (p := ⟨g, 2, none⟩) (.inl rfl) _⟩
theorem enew_bad (n : Int) (w : World) (h : n < 0 ∨ 32 < n) : Calls Try.prog 36 #[.int .i64 n] w fun e w' => e = .returned (.tuple #[.pointer none, .int .i64 1]) ∧ w' = w := by
  by_cases h1 : n < 0
  · have e1 : decide (n < 0) = true := by simpa using h1
    go_enter Try.func36, Try.ntmps36
    go_wp2_with fail
    go_ret2
    exact ⟨rfl, rfl⟩
  · have e1 : decide (n < 0) = false := by simpa using h1
    have e2 : decide (32 < n) = true := by simp; omega
    go_enter Try.func36, Try.ntmps36
    go_wp2_with fail
    go_ret2
    exact ⟨rfl, rfl⟩
theorem enew_ok (n : Int) (w : World) (h0 : 0 ≤ n) (h1 : n ≤ 32) : Calls Try.prog 36 #[.int .i64 n] w fun e w' => e = .returned (.tuple #[.pointer (some ⟨w.heap.size, 0, none⟩), .int .i64 0]) ∧ w' = w.alloc (.cells #[.int .i64 n, .slice none 0 0] 93) := by
  have e1 : decide (n < 0) = false := by simp; omega
  have e2 : decide (32 < n) = false := by simp; omega
  go_enter Try.func36, Try.ntmps36
  go_wp2_with fail
  go_ret2
  exact ⟨rfl, rfl⟩
theorem elen_nil (w : World) : Calls Try.prog 42 #[.pointer none] w fun e w' => e = .returned (.int .i64 0) ∧ w' = w := by
  go_enter Try.func42, Try.ntmps42
  go_wp2_with fail
  go_ret
  exact ⟨rfl, rfl⟩
theorem elen_any (w : World) (s : Nat) (N : Int) (A : Option Addr) (m c : Nat) (hb : Blk w s 93 #[.int .i64 N, .slice A m c]) : Calls Try.prog 42 #[.pointer (some ⟨s, 0, none⟩)] w fun e w' => e = .returned (.int .i64 m) ∧ w' = w := by
  have c1 := hb.cell 1
  have hl := hb.lt
  clear hb
  go_enter Try.func42, Try.ntmps42
  go_wp2_with fail
  go_ret
  exact ⟨rfl, rfl⟩
theorem eget_nil (k : ByteArray) (w : World) : Calls Try.prog 41 #[.pointer none, .string k] w fun e w' => e = .returned (.tuple #[enV en0, .bool false]) ∧ Keeps (fun _ => False) w w' := by
  go_enter Try.func41, Try.ntmps41
  go_wp2_with fail
  refine bodyPost_ret (v := .tuple #[enV en0, .bool false]) (by simp [results, Try.results41, go_sem]) rfl ?_
  exact ⟨rfl, (Keeps.refl _ _).alloc _⟩
set_option maxRecDepth 100000 in
theorem eget_any (w : World) (B s : Nat) (N : Int) (A : Option Addr) (m c : Nat) (l : List Ln) (k : ByteArray) (hb : Blk w s 93 #[.int .i64 N, .slice A m c]) (hr : Rd w B A 3 m (lnCs l)) (hs : Asc l) (hm : m ≤ 1000000) :
    Calls Try.prog 41 #[.pointer (some ⟨s, 0, none⟩), .string k] w fun e w' => e = .returned (.tuple #[enV (getE l k), .bool (foundK l k)]) ∧ Keeps (fun _ => False) w w' := by
  obtain ⟨w1, hw1⟩ : ∃ w1, w1 = w.alloc (.cells #[.string ⟨#[]⟩, .int .u64 0, .int .u64 0] 53) := ⟨_, rfl⟩
  obtain ⟨gr, hgr⟩ : ∃ gr, gr = w.heap.size := ⟨_, rfl⟩
  have k1 : Keeps (fun _ => False) w w1 := by rw [hw1]; exact (Keeps.refl _ _).alloc _
  have HB := hide (hb.kept k1 (fun h => h))
  have HR := hide (hr.kept k1 (fun _ _ h => h))
  have HX : Hid (Blk w1 gr 53 (lnC en0).toArray) := hide (by rw [hw1, hgr]; exact Blk.new _ _ _)
  have HG := hide hgr
  have HW := hide hw1
  have K1 := hide k1
  clear hb hr k1 hgr hw1
  go_enter Try.func41, Try.ntmps41
  go_upto_region 3 with fail
  rw [← HG.out, ← HW.out]
  go_wp2_with fail
  refine (find_any w1 B s N A m c l k HB.out HR.out hs hm).mono ?_
  rintro e w2 ⟨rfl, k2⟩
  have b2 := HB.out.kept k2 (fun h => h)
  have c1 := b2.cell 1
  have hsl := b2.lt
  have x2 := HX.out.kept k2 (fun h => h)
  have f0 := x2.frozen 0
  have f1 := x2.frozen 1
  have f2 := x2.frozen 2
  obtain ⟨x20, x21, x22⟩ := ln_cells x2
  have hxl := x2.lt
  have X2 := hide x2
  have R2 := hide (HR.out.kept k2 (fun _ _ h => h))
  have K2 := hide (K1.out.trans k2)
  clear k2 b2 x2
  rcases hf : foundK l k with _ | _
  · have hge := hide (getE_no hf)
    obtain ⟨hs6, ks6⟩ := set_en X2.out en0
    go_wp2_with fail
    obtain ⟨w6, hw6⟩ : ∃ w6, w6 = ((w2.setCell ⟨gr, 0, none⟩ (.string ⟨#[]⟩)).setCell ⟨gr, 1, none⟩ (.int .u64 0)).setCell ⟨gr, 2, none⟩ (.int .u64 0) := ⟨_, rfl⟩
    rw [← hw6]
    have hs6' : Blk w6 gr 53 (lnC en0).toArray := by rw [hw6]; exact hs6
    have ks6' : Keeps (· = gr) w2 w6 := by rw [hw6]; exact ks6
    obtain ⟨r0, r1, r2⟩ := ln_cells hs6'
    clear hw6 hs6 ks6
    refine bodyPost_ret (v := .tuple #[enV en0, .bool false]) (by simp [results, Try.results41, go_sem, r0, r1, r2]) rfl ?_
    exact ⟨by rw [hge.out, hf], K2.out.step ks6' (fun b hb e => by have := HG.out; omega)⟩
  · obtain ⟨hg1, hg2⟩ := getE_yes hf
    obtain ⟨y, hy⟩ : ∃ y, y = getE l k := ⟨_, rfl⟩
    rw [← hy] at hg1 hg2
    have HY := hide hy
    obtain ⟨b, off, rfl, _, p0, p1, p2⟩ := lnRd_at R2.out hg1 (by have := (List.getElem?_eq_some_iff.1 hg1).1; have := lnRd_len R2.out; omega)
    have hpl : (posK l k : Int) < (m : Int) := by have := (List.getElem?_eq_some_iff.1 hg1).1; have := lnRd_len R2.out; omega
    obtain ⟨hs6, ks6⟩ := set_en X2.out y
    clear hg1 hg2 hy
    generalize posK l k = pk at *
    go_wp2_with fail
    obtain ⟨w6, hw6⟩ : ∃ w6, w6 = ((w2.setCell ⟨gr, 0, none⟩ (.string y.key)).setCell ⟨gr, 1, none⟩ (.int .u64 y.lo)).setCell ⟨gr, 2, none⟩ (.int .u64 y.hi) := ⟨_, rfl⟩
    rw [← hw6] at hs6 ks6 ⊢
    obtain ⟨r0, r1, r2⟩ := ln_cells hs6
    clear hw6
    refine bodyPost_ret (v := .tuple #[enV y, .bool true]) (by simp [results, Try.results41, go_sem, r0, r1, r2]) rfl ?_
    exact ⟨by rw [← HY.out, hf], K2.out.step ks6 (fun b hb e => by have := HG.out; omega)⟩
end Go.Proofs.Ytmbgnekilgobaaa
