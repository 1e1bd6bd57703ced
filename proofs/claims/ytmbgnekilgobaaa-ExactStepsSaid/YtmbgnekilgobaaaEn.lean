
/-
  The reference's store: Get, Add, without, Take. No conditions beyond those of the statement.
-/
import Derived.Test.YtmbgnekilgobaaaEk
import Derived.Test.YtmbgnekilgobaaaEm
set_option linter.unusedVariables false
set_option linter.unusedSimpArgs false
namespace Go.Proofs.Ytmbgnekilgobaaa
open Go.RowKit
theorem plI_no {l : List Ln} {k : ByteArray} (h : foundK l k = false) : plI l k = -1 := by unfold plI; rw [h]; rfl
theorem plI_yes {l : List Ln} {k : ByteArray} (h : foundK l k = true) : plI l k = (posK l k : Nat) := by unfold plI; rw [h]; rfl
set_option maxRecDepth 100000 in
theorem rget_any (w : World) (B s : Nat) (N : Int) (A : Option Addr) (m c : Nat) (l : List Ln) (k : ByteArray) (hb : Blk w s 80 #[.int .i64 N, .slice A m c]) (hr : Rd w B A 3 m (lnCs l)) (hs : Asc l) (hm : m ≤ 1000000) :
    Calls Try.prog 52 #[.pointer (some ⟨s, 0, none⟩), .string k] w fun e w' => e = .returned (.tuple #[enV (getE l k), .bool (foundK l k)]) ∧ Keeps (fun _ => False) w w' := by
  obtain ⟨w1, hw1⟩ : ∃ w1, w1 = w.alloc (.cells #[.string ⟨#[]⟩, .int .u64 0, .int .u64 0] 53) := ⟨_, rfl⟩
  obtain ⟨gr, hgr⟩ : ∃ gr, gr = w.heap.size := ⟨_, rfl⟩
  have k1 : Keeps (fun _ => False) w w1 := by rw [hw1]; exact (Keeps.refl _ _).alloc _
  have b1 := hb.kept k1 (fun h => h)
  have c10 := b1.cell 1
  have hsl0 := b1.lt
  have HB := hide b1
  have HR := hide (hr.kept k1 (fun _ _ h => h))
  have HX : Hid (Blk w1 gr 53 (lnC en0).toArray) := hide (by rw [hw1, hgr]; exact Blk.new _ _ _)
  have HG := hide hgr
  have HW := hide hw1
  have K1 := hide k1
  clear hb hr k1 hgr hw1 b1
  go_enter Try.func52, Try.ntmps52
  go_upto_region 1 with fail
  rw [← HG.out, ← HW.out]
  go_wp2_with fail
  refine (rplace_any w1 B A m c l k HR.out hs hm).mono ?_
  rintro e w2 ⟨rfl, k2⟩
  have b2 := HB.out.kept k2 (fun h => h)
  have c1 := b2.cell 1
  have hsl := b2.lt
  have x2 := HX.out.kept k2 (fun h => h)
  have f0 := x2.frozen 0
  have f1 := x2.frozen 1
  have f2 := x2.frozen 2
  obtain ⟨x20, x21, x22⟩ := ln_cells x2
  have hxl := x2.lt
  have X2 := hide x2
  have R2 := hide (HR.out.kept k2 (fun _ _ h => h))
  have K2 := hide (K1.out.trans k2)
  clear k2 b2 x2 c10 hsl0
  rcases hf : foundK l k with _ | _
  · have hge := hide (getE_no hf)
    rw [plI_no hf]
    obtain ⟨hs6, ks6⟩ := set_en X2.out en0
    go_wp2_with fail
    obtain ⟨w6, hw6⟩ : ∃ w6, w6 = ((w2.setCell ⟨gr, 0, none⟩ (.string ⟨#[]⟩)).setCell ⟨gr, 1, none⟩ (.int .u64 0)).setCell ⟨gr, 2, none⟩ (.int .u64 0) := ⟨_, rfl⟩
    rw [← hw6]
    have hs6' : Blk w6 gr 53 (lnC en0).toArray := by rw [hw6]; exact hs6
    have ks6' : Keeps (· = gr) w2 w6 := by rw [hw6]; exact ks6
    obtain ⟨r0, r1, r2⟩ := ln_cells hs6'
    clear hw6 hs6 ks6
    refine bodyPost_ret (v := .tuple #[enV en0, .bool false]) (by simp [results, Try.results52, go_sem, r0, r1, r2]) rfl ?_
    exact ⟨by rw [hge.out, hf], K2.out.step ks6' (fun b hb e => by have := HG.out; omega)⟩
  · obtain ⟨hg1, hg2⟩ := getE_yes hf
    rw [plI_yes hf]
    obtain ⟨y, hy⟩ : ∃ y, y = getE l k := ⟨_, rfl⟩
    rw [← hy] at hg1 hg2
    have HY := hide hy
    obtain ⟨b, off, rfl, _, p0, p1, p2⟩ := lnRd_at R2.out hg1 (by have := (List.getElem?_eq_some_iff.1 hg1).1; have := lnRd_len R2.out; omega)
    have hpl : (posK l k : Int) < (m : Int) := by have := (List.getElem?_eq_some_iff.1 hg1).1; have := lnRd_len R2.out; omega
    have hp0 : (0 : Int) ≤ (posK l k : Int) := by omega
    obtain ⟨hs6, ks6⟩ := set_en X2.out y
    clear hg1 hg2 hy
    generalize posK l k = pk at *
    go_wp2_with fail
    obtain ⟨w6, hw6⟩ : ∃ w6, w6 = ((w2.setCell ⟨gr, 0, none⟩ (.string y.key)).setCell ⟨gr, 1, none⟩ (.int .u64 y.lo)).setCell ⟨gr, 2, none⟩ (.int .u64 y.hi) := ⟨_, rfl⟩
    rw [← hw6] at hs6 ks6 ⊢
    obtain ⟨r0, r1, r2⟩ := ln_cells hs6
    clear hw6
    refine bodyPost_ret (v := .tuple #[enV y, .bool true]) (by simp [results, Try.results52, go_sem, r0, r1, r2]) rfl ?_
    exact ⟨by rw [← HY.out, hf], K2.out.step ks6 (fun b hb e => by have := HG.out; omega)⟩
set_option maxRecDepth 100000 in
set_option maxHeartbeats 1000000 in
theorem radd_en (w : World) (B s : Nat) (N : Int) (A : Option Addr) (m c : Nat) (l : List Ln) (k : ByteArray) (v : Int) (hv : U v) (hb : Blk w s 80 #[.int .i64 N, .slice A m c]) (ho : Ens w B A m c l) (hs : Asc l) (hu : Nums l) (hm : m ≤ 1000000) (hsA : ¬ inB A s) :
    Calls Try.prog 50 #[.pointer (some ⟨s, 0, none⟩), .string k, .int .u64 v] w fun e w' => e = .returned (.int .i64 (addC l k v)) ∧ Ens w' B A m c (addL l k v) ∧ Keeps (inB A) w w' := by
  have c10 := hb.cell 1
  have hsl0 := hb.lt
  have HB := hide hb
  have HO := hide ho
  clear hb ho
  go_enter Try.func50, Try.ntmps50
  go_wp2_with fail
  refine (rplace_any w _ A m c l k (HO.out.rd (by omega)) hs hm).mono ?_
  rintro e w2 ⟨rfl, k2⟩
  have HO2 := hide (HO.out.kept k2 (fun _ _ h => h))
  have b2 := HB.out.kept k2 (fun h => h)
  have c1 := b2.cell 1
  have hsl := b2.lt
  have K2 := hide (k2.weak (S' := inB A) (fun _ _ h => h.elim))
  clear k2 c10 hsl0
  rcases hf : foundK l k with _ | _
  · have hC : Hid (addC l k v = 8) := hide (by unfold addC; rw [hf]; rfl)
    have hL : Hid (addL l k v = l) := hide (by unfold addL; rw [hC.out]; rfl)
    rw [plI_no hf]
    go_wp2_with fail
    go_ret
    exact ⟨ret_int (by rw [hC.out]), by rw [hL.out]; exact HO2.out, K2.out⟩
  · obtain ⟨hg1, hg2⟩ := getE_yes hf
    rw [plI_yes hf]
    obtain ⟨y, hy⟩ : ∃ y, y = getE l k := ⟨_, rfl⟩
    have hpm : posK l k < m := by have := (List.getElem?_eq_some_iff.1 hg1).1; have := Lns.len_en HO.out; omega
    obtain ⟨g, rfl, _⟩ := Own.some_ HO2.out (by omega)
    rw [← hy] at hg1 hg2
    obtain ⟨p0, p1, p2⟩ := en_at HO2.out hg1
    have hyu := hu y (List.mem_of_getElem? hg1)
    have hpl : (posK l k : Int) < (m : Int) := by omega
    obtain ⟨p, hp⟩ : ∃ p, p = posK l k := ⟨_, rfl⟩
    rw [← hp] at p0 p1 p2 hpl hpm hg1 ⊢
    have hp0 : (0 : Int) ≤ (p : Int) := by omega
    have HP := hide hp
    have HY := hide hy
    have HG1 := hide hg1
    clear hy hp hg1
    have hsum : 0 ≤ y.lo + y.hi ∧ y.lo + y.hi < 18446744073709551616 := by omega
    have wyy : IntKind.u64.wrap (y.lo + y.hi) = y.lo + y.hi := by rw [IntKind.wrap_u64]; omega
    have hfF : Sat.fits (y.lo + y.hi) v = fit3 y.lo y.hi v := rfl
    rcases hfit : fit3 y.lo y.hi v with _ | _
    · have hC : Hid (addC l k v = 12) := hide (by unfold addC; rw [hf, ← HY.out, hfit]; rfl)
      have hL : Hid (addL l k v = l) := hide (by unfold addL; rw [hC.out]; rfl)
      have HFt : ∀ W, Calls Try.prog 72 #[.int .u64 (y.lo + y.hi), .int .u64 v] W fun e w' => e = .returned (.bool false) ∧ W = w' := fun W => by have := Sat.rfits_any (y.lo + y.hi) v hsum.1 hsum.2 hv.1 hv.2 W; rw [hfF, hfit] at this; exact this
      have HFt := hide HFt
      clear hfF
      go_upto_region 4 with fail
      go_quiet ((go_at_call 72; exact quiet_left (HFt.out _)))
      go_wp2_with fail
      go_ret
      exact ⟨ret_int (by rw [hC.out]), by rw [hL.out]; exact HO2.out.drewN _, K2.out.drewN _⟩
    · have hvs : y.lo + y.hi + v ≤ 9223372036854775808 := by simpa [fit3] using hfit
      have hC : Hid (addC l k v = 0) := hide (by unfold addC; rw [hf, ← HY.out, hfit]; rfl)
      have hL : Hid (addL l k v = l.set p ⟨y.key, y.lo + v, y.hi⟩) := hide (by unfold addL; rw [if_pos hC.out, ← HY.out, HP.out])
      have HFt : ∀ W, Calls Try.prog 72 #[.int .u64 (y.lo + y.hi), .int .u64 v] W fun e w' => e = .returned (.bool true) ∧ W = w' := fun W => by have := Sat.rfits_any (y.lo + y.hi) v hsum.1 hsum.2 hv.1 hv.2 W; rw [hfF, hfit] at this; exact this
      have HFt := hide HFt
      have wv : IntKind.u64.wrap (y.lo + v) = y.lo + v := by rw [IntKind.wrap_u64]; have := hv.1; omega
      have f1 := HO2.out.frozen (p * 3 + 1)
      have o3 := HO2.out.store (p * 3 + 1) (.int .u64 (y.lo + v))
      rw [lnCs_lo HG1.out] at o3
      have O3 := hide o3
      have k3 : Hid (Keeps (inB (some ⟨g, 0, none⟩)) w2 (w2.setCell ⟨g, p * 3 + 1, none⟩ (.int .u64 (y.lo + v)))) := hide (Keeps.setCell (p := ⟨g, p * 3 + 1, none⟩) (Keeps.refl _ _) (.inl ((inB_some _ _ _).2 rfl)) _)
      clear o3 hfF
      go_upto_region 4 with fail
      go_quiet ((go_at_call 72; exact quiet_left (HFt.out _)))
      go_wp2_with fail
      go_ret
      exact ⟨ret_int (by rw [hC.out]), by rw [hL.out]; exact O3.out.drewN nq, (K2.out.trans k3.out).drewN nq⟩
set_option maxRecDepth 100000 in
set_option maxHeartbeats 1000000 in
theorem rwithout_any (w : World) (B : Nat) (A : Option Addr) (n c i : Nat) (l : List Ln) (ho : Ens w B A n c l) (hn : n ≤ 100000) (hi : i < n) :
    Calls Try.prog 73 #[.slice A n c, .int .i64 (i : Int)] w fun e w' => ∃ A' c', e = .returned (.slice A' (n - 1) c') ∧ Ens w' w.heap.size A' (n - 1) c' (l.take i ++ l.drop (i + 1)) ∧ Keeps (fun _ => False) w w' := by
  have hnc := Own.le ho
  obtain ⟨m, hm⟩ : ∃ m, n = i + 1 + m := ⟨n - (i + 1), by omega⟩
  obtain ⟨Da, hsa, hra, hia⟩ := sub_hi elemEn A n c .i64 (i : Int) (by omega) (by omega) hnc
  obtain ⟨Db, hsb, hrb, hib⟩ := sub_lo elemEn A n c .i64 ((i : Int) + 1) (by omega) (by omega) hnc
  rw [show ((i : Nat) : Int).toNat = i from by omega] at hsa hra
  rw [show ((i : Int) + 1).toNat = i + 1 from by omega, show n - (i + 1) = m from by omega] at hsb hrb
  have RA := hide (hra _ _ _ (ho.rd (by omega)))
  have RB := hide (hrb _ _ _ (ho.rd (by omega)))
  rw [lnCs_take] at RA
  rw [lnCs_drop] at RB
  have wi1 : IntKind.i64.wrap ((i : Int) + 1) = (i : Int) + 1 := IntWalk.i64_in _ (by omega)
  have HM := hide hm
  have hmn : i + m ≤ 100000 := by omega
  have HB := hide ho
  clear ho hra hrb hia hib hm
  go_enter Try.func73, Try.ntmps73
  go_wp2_with fail
  go_region_law (first
    | (refine step_app _ elemEn (by rfl) (.tmp 5) (.tmp 8) (by rfl) w.heap.size _ (by rfl) (Own.new0 _ _ 53 3 _ (by simp) (by simp)) _ (m := i) _ (by rfl) (RA.out.kept (((Keeps.refl (fun _ => False) w).drew).alloc _) (fun _ _ h => h)) (lnCs_one _) (by simp only [maxLen]; omega) (by omega) (by simp) ?_; intro A7 c7 w7 o7 k7 hA7; rw [Nat.zero_add, List.nil_append] at o7; have O7 := hide o7; have K7 := hide ((((Keeps.refl (fun _ => False) w).drew).alloc (.cells #[] 53)).step k7 (fun q hq h => by have := (inB_some _ _ _).1 h; (try simp at this); omega)); clear o7 k7 hA7)
    | (refine step_app _ elemEn (by rfl) (.tmp 9) (.tmp 13) (by rfl) w.heap.size _ (by rfl) O7.out _ (m := m) _ (by rfl) (RB.out.kept K7.out (fun _ _ h => h)) (lnCs_one _) (by simp only [maxLen]; omega) (by omega) (K7.out.size) ?_; intro A8 c8 w8 o8 k8 hA8; have O8 := hide o8; have K8 := hide (K7.out.step k8 (fun q hq h => by have := O7.out.inB h; omega)); clear o8 k8 hA8))
  (try simp only [Act.put, List.getElem_toArray, List.getElem_cons_succ, List.getElem_cons_zero, List.setIfInBounds_toArray, List.set_cons_zero, List.set_cons_succ])
  go_wp2_with fail
  go_ret
  have hE : i + m = n - 1 := by have := HM.out; omega
  have h1 := O8.out
  rw [← lnCs_app, hE] at h1
  exact ⟨A8, c8, by rw [hE]; rfl, h1, K8.out⟩
end Go.Proofs.Ytmbgnekilgobaaa
