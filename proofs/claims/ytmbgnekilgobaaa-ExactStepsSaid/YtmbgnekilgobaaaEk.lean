/-
  The exact store: Take. No conditions beyond those of the statement.
-/
import Derived.Test.YtmbgnekilgobaaaEi
import Derived.Test.YtmbgnekilgobaaaEj
set_option linter.unusedVariables false
set_option linter.unusedSimpArgs false
namespace Go.Proofs.Ytmbgnekilgobaaa
open Go.RowKit
theorem etake_nil (k : ByteArray) (w : World) : Calls Try.prog 48 #[.pointer none, .string k] w fun e w' => e = .returned (.tuple #[enV en0, .bool false]) ∧ Keeps (fun _ => False) w w' := by
  go_enter Try.func48, Try.ntmps48
  go_wp2_with fail
  refine bodyPost_ret (v := .tuple #[enV en0, .bool false]) (by simp [results, Try.results48, go_sem]) rfl ?_
  exact ⟨rfl, (Keeps.refl _ _).alloc _⟩
/-- what Take leaves -/
def takeL (l : List Ln) (k : ByteArray) : List Ln := if foundK l k then l.take (posK l k) ++ l.drop (posK l k + 1) else l
def takeM (m : Nat) (l : List Ln) (k : ByteArray) : Nat := if foundK l k then m - 1 else m
def TakePost (w : World) (B s : Nat) (N : Int) (A : Option Addr) (m c : Nat) (l : List Ln) (k : ByteArray) (e : Ending) (w' : World) : Prop :=
  e = .returned (.tuple #[enV (getE l k), .bool (foundK l k)]) ∧ Blk w' s 93 #[.int .i64 N, .slice A (takeM m l k) c] ∧ Ens w' B A (takeM m l k) c (takeL l k) ∧ Keeps (fun q => q = s ∨ inB A q) w w'
set_option maxRecDepth 100000 in
set_option maxHeartbeats 1000000 in
theorem etake_any (w : World) (B s : Nat) (N : Int) (A : Option Addr) (m c : Nat) (l : List Ln) (k : ByteArray) (hb : Blk w s 93 #[.int .i64 N, .slice A m c]) (ho : Ens w B A m c l) (hs : Asc l) (hm : m ≤ 100000) (hsA : ¬ inB A s) :
    Calls Try.prog 48 #[.pointer (some ⟨s, 0, none⟩), .string k] w (TakePost w B s N A m c l k) := by
  obtain ⟨w1, hw1⟩ : ∃ w1, w1 = w.alloc (.cells #[.string ⟨#[]⟩, .int .u64 0, .int .u64 0] 53) := ⟨_, rfl⟩
  obtain ⟨gr, hgr⟩ : ∃ gr, gr = w.heap.size := ⟨_, rfl⟩
  have k1 : Keeps (fun _ => False) w w1 := by rw [hw1]; exact (Keeps.refl _ _).alloc _
  have HB := hide (hb.kept k1 (fun h => h))
  have HO := hide (ho.kept k1 (fun _ _ h => h))
  have HX : Hid (Blk w1 gr 53 (lnC en0).toArray) := hide (by rw [hw1, hgr]; exact Blk.new _ _ _)
  have HG := hide hgr
  have HW := hide hw1
  have K1 := hide k1
  have HBs := hide hb.lt
  have HAg : Hid (∀ q, inB A q → q < w.heap.size) := hide (fun q hq => (ho.inB hq).2)
  clear hb ho k1 hgr hw1
  go_enter Try.func48, Try.ntmps48
  go_upto_region 3 with fail
  rw [← HG.out, ← HW.out]
  go_wp2_with fail
  refine (find_any w1 _ s N A m c l k HB.out (HO.out.rd (by omega)) hs (by omega)).mono ?_
  rintro e w2 ⟨rfl, k2⟩
  have b2 := HB.out.kept k2 (fun h => h)
  have c1 := b2.cell 1
  have hsl := b2.lt
  have x2 := HX.out.kept k2 (fun h => h)
  have f0 := x2.frozen 0
  have f1 := x2.frozen 1
  have f2 := x2.frozen 2
  obtain ⟨x20, x21, x22⟩ := ln_cells x2
  have hxl := x2.lt
  have X2 := hide x2
  have B2 := hide b2
  have O2 := hide (HO.out.kept k2 (fun _ _ h => h))
  have K2 := hide (K1.out.trans k2)
  clear k2 b2 x2
  rcases hf : foundK l k with _ | _
  · have hge := hide (getE_no hf)
    have hL : Hid (takeL l k = l) := hide (by unfold takeL; rw [hf]; rfl)
    have hM : Hid (takeM m l k = m) := hide (by unfold takeM; rw [hf]; rfl)
    obtain ⟨hs6, ks6⟩ := set_en X2.out en0
    go_wp2_with fail
    obtain ⟨w6, hw6⟩ : ∃ w6, w6 = ((w2.setCell ⟨gr, 0, none⟩ (.string ⟨#[]⟩)).setCell ⟨gr, 1, none⟩ (.int .u64 0)).setCell ⟨gr, 2, none⟩ (.int .u64 0) := ⟨_, rfl⟩
    rw [← hw6]
    have hs6' : Blk w6 gr 53 (lnC en0).toArray := by rw [hw6]; exact hs6
    have ks6' : Keeps (· = gr) w2 w6 := by rw [hw6]; exact ks6
    obtain ⟨r0, r1, r2⟩ := ln_cells hs6'
    clear hw6 hs6 ks6
    refine bodyPost_ret (v := .tuple #[enV en0, .bool false]) (by simp [results, Try.results48, go_sem, r0, r1, r2]) rfl ?_
    exact ⟨by rw [hge.out, hf], by rw [hM.out]; exact B2.out.kept ks6' (fun e => by have := HG.out; have := HBs.out; omega), by rw [hM.out, hL.out]; exact O2.out.kept ks6' (fun q hq e => by have := HAg.out q hq; have := HG.out; omega), (K2.out.step ks6' (fun b hb e => by have := HG.out; omega)).weak (fun _ _ h => h.elim)⟩
  · obtain ⟨hg1, hg2⟩ := getE_yes hf
    obtain ⟨y, hy⟩ : ∃ y, y = getE l k := ⟨_, rfl⟩
    rw [← hy] at hg1 hg2
    have HY := hide hy
    have hL : Hid (takeL l k = l.take (posK l k) ++ l.drop (posK l k + 1)) := hide (by unfold takeL; rw [hf]; rfl)
    have hM : Hid (takeM m l k = m - 1) := hide (by unfold takeM; rw [hf]; rfl)
    have hpm : posK l k < m := by have := (List.getElem?_eq_some_iff.1 hg1).1; have := Lns.len_en O2.out; omega
    obtain ⟨g, rfl, _⟩ := Own.some_ O2.out (by omega)
    obtain ⟨p0, p1, p2⟩ := en_at O2.out hg1
    have hpl : (posK l k : Int) < (m : Int) := by omega
    clear hg1 hg2 hy
    generalize posK l k = pk at *
    have wi1 : IntKind.i64.wrap ((pk : Int) + 1) = (pk : Int) + 1 := IntWalk.i64_in _ (by omega)
    obtain ⟨gy, hgy⟩ : ∃ gy, gy = w2.heap.size := ⟨_, rfl⟩
    obtain ⟨w3, hw3⟩ : ∃ w3, w3 = w2.alloc (.cells #[.string y.key, .int .u64 y.lo, .int .u64 y.hi] 53) := ⟨_, rfl⟩
    have k3 : Keeps (fun _ => False) w2 w3 := by rw [hw3]; exact (Keeps.refl _ _).alloc _
    have b3 := B2.out.kept k3 (fun h => h)
    have c31 := b3.cell 1
    have hsl3 := b3.lt
    have B3 := hide b3
    have Y3 : Hid (Blk w3 gy 53 (lnC y).toArray) := hide (by rw [hw3, hgy]; exact Blk.new _ _ _)
    have X3 := hide (X2.out.kept k3 (fun h => h))
    have O3 := hide (O2.out.kept k3 (fun _ _ h => h))
    have HGY := hide hgy
    have HW3 := hide hw3
    have K3 := hide (K2.out.trans k3)
    have hgg : g < w.heap.size := HAg.out g ((inB_some _ _ _).2 rfl)
    have hsg : s ≠ g := fun e => hsA ((inB_some _ _ _).2 e.symm)
    have hgr : w.heap.size ≤ gr := by have := HG.out; omega
    have hgyr : gr < gy := by rw [hgy]; exact hxl
    go_upto_region 7 with fail
    rw [← HGY.out, ← HW3.out]
    clear c1 hsl x20 x21 x22 hxl f0 f1 f2 p0 p1 p2 hgy hw3 k3 b3 X2 O2 B2
    go_wp2_with fail
    refine (del_any w3 B g m c pk l O3.out (by omega) (by omega)).mono ?_
    rintro e w4 ⟨rfl, o4, k4⟩
    have b4 := B3.out.kept k4 hsg
    have f41 := b4.frozen 1
    have c41 := b4.cell 1
    have hsl4 := b4.lt
    have x4 := X3.out.kept k4 (by omega)
    have y4 := Y3.out.kept k4 (by omega)
    obtain ⟨w5, hw5⟩ : ∃ w5, w5 = w4.setCell ⟨s, 1, none⟩ (.slice (some ⟨g, 0, none⟩) (m - 1) c) := ⟨_, rfl⟩
    have k5 : Keeps (· = s) w4 w5 := by rw [hw5]; exact Keeps.setCell (S := (· = s)) (p := ⟨s, 1, none⟩) (Keeps.refl _ _) (.inl rfl) _
    have B5 : Hid (Blk w5 s 93 #[.int .i64 N, .slice (some ⟨g, 0, none⟩) (m - 1) c]) := hide (by rw [hw5]; exact b4.set 1 _)
    have x5 := x4.kept k5 (by have := HBs.out; omega)
    have y5 := y4.kept k5 (by have := HBs.out; omega)
    have O5 := hide (o4.kept k5 (fun q hq e => hsA (e ▸ hq)))
    have K5 : Hid (Keeps (fun q => q = s ∨ inB (some ⟨g, 0, none⟩) q) w w5) := hide (((K3.out.weak (fun _ _ h => h.elim)).trans (k4.weak (fun q _ e => .inr ((inB_some _ _ _).2 e.symm)))).trans (k5.weak (fun q _ e => .inl e)))
    have HW5 := hide hw5
    have f50 := x5.frozen 0
    have f51 := x5.frozen 1
    have f52 := x5.frozen 2
    obtain ⟨x50, x51, x52⟩ := ln_cells x5
    obtain ⟨y50, y51, y52⟩ := ln_cells y5
    have hxl5 := x5.lt
    have hyl5 := y5.lt
    obtain ⟨hs6, ks6⟩ := set_en x5 y
    clear o4 k4 b4 x4 y4 hw5 k5
    go_upto_region 8 with fail
    rw [← HW5.out]
    clear c31 hsl3 f41 c41 hsl4
    go_wp2_with fail
    obtain ⟨w6, hw6⟩ : ∃ w6, w6 = ((w5.setCell ⟨gr, 0, none⟩ (.string y.key)).setCell ⟨gr, 1, none⟩ (.int .u64 y.lo)).setCell ⟨gr, 2, none⟩ (.int .u64 y.hi) := ⟨_, rfl⟩
    rw [← hw6] at hs6 ks6 ⊢
    obtain ⟨r0, r1, r2⟩ := ln_cells hs6
    clear hw6
    refine bodyPost_ret (v := .tuple #[enV y, .bool true]) (by simp [results, Try.results48, go_sem, r0, r1, r2]) rfl ?_
    exact ⟨by rw [← HY.out, hf], by rw [hM.out]; exact B5.out.kept ks6 (by have := HBs.out; omega), by rw [hM.out, hL.out]; exact O5.out.kept ks6 (fun q hq e => by have := (inB_some _ _ _).1 hq; omega), K5.out.step ks6 (fun q hq e => by omega)⟩
end Go.Proofs.Ytmbgnekilgobaaa
