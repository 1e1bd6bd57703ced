
/-
  The reference's store: Take. No conditions beyond those of the statement.
-/
import Derived.Test.YtmbgnekilgobaaaEn
set_option linter.unusedVariables false
set_option linter.unusedSimpArgs false
namespace Go.Proofs.Ytmbgnekilgobaaa
open Go.RowKit
def RTakePost (w : World) (B s : Nat) (N : Int) (A : Option Addr) (m : Nat) (l : List Ln) (k : ByteArray) (e : Ending) (w' : World) : Prop :=
  ∃ A' c', e = .returned (.tuple #[enV (getE l k), .bool (foundK l k)]) ∧ Blk w' s 80 #[.int .i64 N, .slice A' (takeM m l k) c'] ∧ Ens w' B A' (takeM m l k) c' (takeL l k) ∧ Keeps (· = s) w w' ∧ (∀ q, inB A' q → inB A q ∨ w.heap.size ≤ q)
set_option maxRecDepth 100000 in
set_option maxHeartbeats 1000000 in
theorem rtake_any (w : World) (B s : Nat) (N : Int) (A : Option Addr) (m c : Nat) (l : List Ln) (k : ByteArray) (hb : Blk w s 80 #[.int .i64 N, .slice A m c]) (ho : Ens w B A m c l) (hB : B ≤ w.heap.size) (hs : Asc l) (hm : m ≤ 100000) (hsA : ¬ inB A s) :
    Calls Try.prog 51 #[.pointer (some ⟨s, 0, none⟩), .string k] w (RTakePost w B s N A m l k) := by
  obtain ⟨w1, hw1⟩ : ∃ w1, w1 = w.alloc (.cells #[.string ⟨#[]⟩, .int .u64 0, .int .u64 0] 53) := ⟨_, rfl⟩
  obtain ⟨gr, hgr⟩ : ∃ gr, gr = w.heap.size := ⟨_, rfl⟩
  have k1 : Keeps (fun _ => False) w w1 := by rw [hw1]; exact (Keeps.refl _ _).alloc _
  have HB := hide (hb.kept k1 (fun h => h))
  have HO := hide (ho.kept k1 (fun _ _ h => h))
  have HX : Hid (Blk w1 gr 53 (lnC en0).toArray) := hide (by rw [hw1, hgr]; exact Blk.new _ _ _)
  have HG := hide hgr
  have hgr1 : w.heap.size ≤ gr := by omega
  have HW := hide hw1
  have K1 := hide k1
  have HBs := hide hb.lt
  have HAg : Hid (∀ q, inB A q → q < w.heap.size) := hide (fun q hq => (ho.inB hq).2)
  clear hb ho k1 hgr hw1
  go_enter Try.func51, Try.ntmps51
  go_upto_region 1 with fail
  rw [← HG.out, ← HW.out]
  go_wp2_with fail
  refine (rget_any w1 _ s N A m c l k HB.out (HO.out.rd (by omega)) hs (by omega)).mono ?_
  rintro e w2 ⟨rfl, k2⟩
  have x2 := HX.out.kept k2 (fun h => h)
  have B2 := hide (HB.out.kept k2 (fun h => h))
  have O2 := hide (HO.out.kept k2 (fun _ _ h => h))
  have K2 := hide (K1.out.trans k2)
  obtain ⟨y, hy⟩ : ∃ y, y = getE l k := ⟨_, rfl⟩
  obtain ⟨gy, hgy⟩ : ∃ gy, gy = w2.heap.size := ⟨_, rfl⟩
  obtain ⟨w3, hw3⟩ : ∃ w3, w3 = w2.alloc (.cells #[.string y.key, .int .u64 y.lo, .int .u64 y.hi] 53) := ⟨_, rfl⟩
  have k3 : Keeps (fun _ => False) w2 w3 := by rw [hw3]; exact (Keeps.refl _ _).alloc _
  have b3 := B2.out.kept k3 (fun h => h)
  have B3 := hide b3
  have Y3 : Hid (Blk w3 gy 53 (lnC y).toArray) := hide (by rw [hw3, hgy]; exact Blk.new _ _ _)
  have X3 := hide (x2.kept k3 (fun h => h))
  have O3 := hide (O2.out.kept k3 (fun _ _ h => h))
  have hgry : gr < gy := by rw [hgy]; exact x2.lt
  have HGY := hide hgy
  have HW3 := hide hw3
  have K3 := hide (K2.out.trans k3)
  have HY := hide hy
  rw [← hy]
  clear k2 k3 hw3 hgy hy x2
  have Fin : ∀ (w7 : World) (A7 : Option Addr) (c7 : Nat), Hid (Blk w7 s 80 #[.int .i64 N, .slice A7 (takeM m l k) c7]) → Hid (Ens w7 B A7 (takeM m l k) c7 (takeL l k)) → Hid (Keeps (· = s) w w7) → Hid (Blk w7 gr 53 (lnC en0).toArray) → (∀ q, inB A7 q → inB A q ∨ gr < q) →
      RTakePost w B s N A m l k (.returned (.tuple #[enV y, .bool (foundK l k)])) (((w7.setCell ⟨gr, 0, none⟩ (.string y.key)).setCell ⟨gr, 1, none⟩ (.int .u64 y.lo)).setCell ⟨gr, 2, none⟩ (.int .u64 y.hi)) := by
    intro w7 A7 c7 hb7 ho7 k7 hx7 hA7
    obtain ⟨hs6, ks6⟩ := set_en hx7.out y
    exact ⟨A7, c7, by rw [HY.out], hb7.out.kept ks6 (by have := HBs.out; omega), ho7.out.kept ks6 (fun q hq e => by
      rcases hA7 q hq with h | h
      · have := HAg.out q h; omega
      · omega), k7.out.step ks6 (fun q hq e => by omega), fun q hq => (hA7 q hq).imp id (fun h => by omega)⟩
  have Fin := hide Fin
  rcases hf : foundK l k with _ | _
  · have hL : Hid (takeL l k = l) := hide (by unfold takeL; rw [hf]; rfl)
    have hM : Hid (takeM m l k = m) := hide (by unfold takeM; rw [hf]; rfl)
    have FN := hide (Fin.out w3 A c (by rw [hM.out]; exact B3) (by rw [hM.out, hL.out]; exact O3) (hide (K3.out.weak (fun _ _ h => h.elim))) X3 (fun q h => .inl h))
    rw [hf] at FN
    obtain ⟨x30, x31, x32⟩ := ln_cells X3.out
    obtain ⟨y30, y31, y32⟩ := ln_cells Y3.out
    have f30 := X3.out.frozen 0
    have f31 := X3.out.frozen 1
    have f32 := X3.out.frozen 2
    have hxl3 := X3.out.lt
    have hyl3 := Y3.out.lt
    go_upto_region 2 with fail
    rw [← HGY.out, ← HW3.out]
    go_wp2_with fail
    obtain ⟨w6, hw6⟩ : ∃ w6, w6 = ((w3.setCell ⟨gr, 0, none⟩ (.string y.key)).setCell ⟨gr, 1, none⟩ (.int .u64 y.lo)).setCell ⟨gr, 2, none⟩ (.int .u64 y.hi) := ⟨_, rfl⟩
    obtain ⟨r0, r1, r2⟩ := ln_cells (set_en X3.out y).1
    rw [← hw6] at r0 r1 r2 FN ⊢
    clear hw6
    refine bodyPost_ret (v := .tuple #[enV y, .bool false]) (by simp [results, Try.results51, go_sem, r0, r1, r2]) rfl ?_
    exact FN.out
  · have hL : Hid (takeL l k = l.take (posK l k) ++ l.drop (posK l k + 1)) := hide (by unfold takeL; rw [hf]; rfl)
    have hM : Hid (takeM m l k = m - 1) := hide (by unfold takeM; rw [hf]; rfl)
    have HPl := hide (plI_yes hf)
    have hpm : posK l k < m := by have := (List.getElem?_eq_some_iff.1 (getE_yes hf).1).1; have := Lns.len_en O2.out; omega
    generalize posK l k = pk at *
    have c31 := B3.out.cell 1
    have hsl3 := B3.out.lt
    go_upto_region 3 with fail
    rw [← HGY.out, ← HW3.out]
    go_region_with (first
      | (go_at_call 68; refine (rplace_any _ _ A m c l k ((O3.out.kept ((Keeps.refl (fun _ => False) w3).drew) (fun _ _ h => h)).rd (by omega)) hs (by omega)).mono ?_; rintro e w5 ⟨rfl, k5⟩; rw [HPl.out]; have K5 := hide ((Keeps.refl (fun _ => False) w3).drew.trans k5); have c51 := (B3.out.kept K5.out (fun h => h)).cell 1; have hsl5 := (B3.out.kept K5.out (fun h => h)).lt; have O5 := hide (O3.out.kept K5.out (fun _ _ h => h)); clear k5)
      | (go_at_call 73; refine (rwithout_any w5 B A m c pk l O5.out (by omega) (by omega)).mono ?_; rintro e w6 ⟨A6, c6, rfl, o6, k6⟩; have K6 := hide (K5.out.trans k6); have b6 := B3.out.kept K6.out (fun h => h); have f61 := b6.frozen 1; have c61 := b6.cell 1; have hsl6 := b6.lt; have B6 := hide b6; have O6 := hide o6; clear o6 k6 b6))
    all_goals
      have K7 : Keeps (· = s) w6 (w6.setCell ⟨s, 1, none⟩ (.slice A6 (m - 1) c6)) := Keeps.setCell (S := (· = s)) (p := ⟨s, 1, none⟩) (Keeps.refl _ _) (.inl rfl) _
      have B7 := B6.out.set 1 (.slice A6 (m - 1) c6)
      have hA6 : Hid (∀ q, inB A6 q → gy < q) := hide (fun q hq => by have := (O6.out.inB hq).1; have := K5.out.size; have := Y3.out.lt; omega)
      have O7 := hide ((O6.out.base_le (b := B) (by have := K3.out.size; have := K5.out.size; omega)).kept K7 (fun q hq e => by have := hA6.out q hq; have := HBs.out; omega))
      have X7 := hide ((X3.out.kept K6.out (fun h => h)).kept K7 (by have := HBs.out; omega))
      have Y7 := hide ((Y3.out.kept K6.out (fun h => h)).kept K7 (by have := HBs.out; omega))
      have K8 := hide ((K3.out.trans K6.out).weak (S' := (· = s)) (fun _ _ h => h.elim) |>.trans K7)
      have FN := hide (Fin.out _ A6 c6 (by rw [hM.out]; exact hide B7) (by rw [hM.out, hL.out]; exact O7) K8 X7 (fun q h => .inr (by have := hA6.out q h; omega)))
      rw [hf] at FN
      generalize w6.setCell _ _ = w7 at *
      obtain ⟨x30, x31, x32⟩ := ln_cells X7.out
      obtain ⟨y30, y31, y32⟩ := ln_cells Y7.out
      have f30 := X7.out.frozen 0
      have f31 := X7.out.frozen 1
      have f32 := X7.out.frozen 2
      have hxl3 := X7.out.lt
      have hyl3 := Y7.out.lt
      clear c31 hsl3 c51 hsl5 f61 c61 hsl6 K7 B7 B6
      go_wp2_with fail
      obtain ⟨w8, hw8⟩ : ∃ w8, w8 = ((w7.setCell ⟨gr, 0, none⟩ (.string y.key)).setCell ⟨gr, 1, none⟩ (.int .u64 y.lo)).setCell ⟨gr, 2, none⟩ (.int .u64 y.hi) := ⟨_, rfl⟩
      obtain ⟨r0, r1, r2⟩ := ln_cells (set_en X7.out y).1
      rw [← hw8] at r0 r1 r2 FN ⊢
      clear hw8
      refine bodyPost_ret (v := .tuple #[enV y, .bool true]) (by simp [results, Try.results51, go_sem, r0, r1, r2]) rfl ?_
      exact FN.out
end Go.Proofs.Ytmbgnekilgobaaa
