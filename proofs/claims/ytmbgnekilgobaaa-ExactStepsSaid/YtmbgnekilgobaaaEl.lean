/-
  The exact store: Least, the program's and the reference's. No conditions beyond those of the statement.
-/
import Derived.Test.YtmbgnekilgobaaaEi
set_option linter.unusedVariables false
set_option linter.unusedSimpArgs false
namespace Go.Proofs.Ytmbgnekilgobaaa
open Go.RowKit
/-- the least of entries, the last of several -/
def lsF (a : Ln) (l : List Ln) : Ln := l.foldl (fun a e => if e.lo + e.hi ≤ a.lo + a.hi then e else a) a
def leastL (l : List Ln) : Ln := match l with
  | [] => en0
  | x :: l => lsF x l
theorem lsF_snoc (a : Ln) (l : List Ln) (e : Ln) : lsF a (l ++ [e]) = if e.lo + e.hi ≤ (lsF a l).lo + (lsF a l).hi then e else lsF a l := by
  unfold lsF; rw [List.foldl_append]; rfl
theorem lsF_mem (a : Ln) (l : List Ln) : lsF a l ∈ a :: l := by
  induction l generalizing a with
  | nil => exact List.mem_singleton.2 rfl
  | cons e l ih =>
    have : lsF a (e :: l) = lsF (if e.lo + e.hi ≤ a.lo + a.hi then e else a) l := rfl
    rw [this]
    rcases List.mem_cons.1 (ih (if e.lo + e.hi ≤ a.lo + a.hi then e else a)) with h | h
    · rw [h]
      split <;> simp
    · exact List.mem_cons_of_mem _ (List.mem_cons_of_mem _ h)
theorem lsF_take (a : Ln) (l : List Ln) (i : Nat) (e : Ln) (h : l[i]? = some e) : lsF a (l.take (i + 1)) = if e.lo + e.hi ≤ (lsF a (l.take i)).lo + (lsF a (l.take i)).hi then e else lsF a (l.take i) := by
  rw [List.take_add_one, h]
  exact lsF_snoc _ _ _
theorem eleast_nil (w : World) : Calls Try.prog 45 #[.pointer none] w fun e w' => e = .returned (.tuple #[enV en0, .bool false]) ∧ Keeps (fun _ => False) w w' := by
  go_enter Try.func45, Try.ntmps45
  go_wp2_with fail
  refine bodyPost_ret (v := .tuple #[enV en0, .bool false]) (by simp [results, Try.results45, go_sem]) rfl ?_
  exact ⟨rfl, (Keeps.refl _ _).alloc _⟩
theorem eleast_none (w : World) (s : Nat) (N : Int) (A : Option Addr) (c : Nat) (hb : Blk w s 93 #[.int .i64 N, .slice A 0 c]) : Calls Try.prog 45 #[.pointer (some ⟨s, 0, none⟩)] w fun e w' => e = .returned (.tuple #[enV en0, .bool false]) ∧ Keeps (fun _ => False) w w' := by
  have c1 := hb.cell 1
  have hsl := hb.lt
  clear hb
  go_enter Try.func45, Try.ntmps45
  go_wp2_with fail
  refine bodyPost_ret (v := .tuple #[enV en0, .bool false]) (by simp [results, Try.results45, go_sem]) rfl ?_
  exact ⟨rfl, (Keeps.refl _ _).alloc _⟩
set_option maxRecDepth 100000 in
set_option maxHeartbeats 1000000 in
theorem eleast_some (w : World) (B s : Nat) (N : Int) (A : Option Addr) (m c : Nat) (x0 : Ln) (tl : List Ln) (hb : Blk w s 93 #[.int .i64 N, .slice A m c]) (hr : Rd w B A 3 m (lnCs (x0 :: tl))) (hB : B ≤ w.heap.size) (hmc : m ≤ c) (hu : Nums (x0 :: tl)) (hm : m ≤ 1000000) :
    Calls Try.prog 45 #[.pointer (some ⟨s, 0, none⟩)] w fun e w' => e = .returned (.tuple #[enV (lsF x0 tl), .bool true]) ∧ Keeps (fun _ => False) w w' := by
  obtain ⟨m', hm'⟩ : ∃ m', m = m' + 1 := ⟨tl.length, by have := lnRd_len hr; simpa using this.symm⟩
  obtain ⟨w1, hw1⟩ : ∃ w1, w1 = w.alloc (.cells #[.string ⟨#[]⟩, .int .u64 0, .int .u64 0] 53) := ⟨_, rfl⟩
  obtain ⟨gr, hgr⟩ : ∃ gr, gr = w.heap.size := ⟨_, rfl⟩
  have k1 : Keeps (fun _ => False) w w1 := by rw [hw1]; exact (Keeps.refl _ _).alloc _
  have b1 := hb.kept k1 (fun h => h)
  have r1 := hr.kept k1 (fun _ _ h => h)
  obtain ⟨w3, hw3⟩ : ∃ w3, w3 = w1.alloc (.cells #[.string x0.key, .int .u64 x0.lo, .int .u64 x0.hi] 53) := ⟨_, rfl⟩
  obtain ⟨gl, hgl⟩ : ∃ gl, gl = w1.heap.size := ⟨_, rfl⟩
  have k3 : Keeps (fun _ => False) w1 w3 := by rw [hw3]; exact (Keeps.refl _ _).alloc _
  have HX : Hid (Blk w1 gr 53 (lnC en0).toArray) := hide (by rw [hw1, hgr]; exact Blk.new _ _ _)
  have HX3 : Hid (Blk w3 gr 53 (lnC en0).toArray) := hide (HX.out.kept k3 (fun h => h))
  have HY : Hid (Blk w3 gl 53 (lnC x0).toArray) := hide (by rw [hw3, hgl]; exact Blk.new _ _ _)
  have b3 := b1.kept k3 (fun h => h)
  have c11 := b1.cell 1
  have hs1 := b1.lt
  have c31 := b3.cell 1
  have hs3 := b3.lt
  have hl := lnRd_len hr
  obtain ⟨b, off, rfl, _, p0, p1, p2⟩ := lnRd_at r1 (i := 0) (x := x0) rfl (by omega)
  simp only [Nat.zero_mul, Nat.add_zero] at p0 p1 p2
  obtain ⟨A', hsl, hrl, _⟩ := sub_lo elemEn (some ⟨b, off, none⟩) m c .i64 1 (by omega) (by omega) hmc
  have r3 := hrl _ _ _ (r1.kept k3 (fun _ _ h => h))
  have hmm : m - (1 : Int).toNat = m' := by simp; omega
  rw [hmm] at r3 hsl
  rw [show (lnCs (x0 :: tl)).drop ((1 : Int).toNat * 3) = lnCs tl from lnCs_drop (x0 :: tl) 1] at r3
  have R3 := hide r3
  have hx0 := hu x0 (List.mem_cons_self ..)
  have HU := hide hu
  have HG := hide hgr
  have HW := hide hw1
  have HG3 := hide hgl
  have HW3 := hide hw3
  have K3 := hide (k1.trans k3)
  have hge : Hid (w.heap.size ≤ gr ∧ gr < gl) := hide ⟨by omega, by have := HX.out.lt; omega⟩
  have hme : ((m : Int) == 0) = false := by simp; omega
  have hm0 : (0 : Int) < (m : Int) := by omega
  have hm0' : 0 < m := by omega
  have htl : Hid (tl.length = m') := hide (by simp at hl; omega)
  have HM := hide hm'
  have hmb : m' ≤ 1000000 := by omega
  clear hb hr hw1 hgr hw3 hgl k1 k3 b1 b3 r1 r3 hrl hu hmm hl hm'
  go_enter Try.func45, Try.ntmps45
  go_upto_region 1 with fail
  rw [← HG.out, ← HW.out]
  go_upto_region 4 with fail
  rw [← HG3.out, ← HW3.out]
  go_upto_region 5 with fail
  clear c11 hs1 p0 p1 p2
  go_loopw [30] (fun iv wr => ∃ i : Nat, i ≤ m' ∧ iv = .int .i64 (i : Int) ∧ Hid (Blk wr gl 53 (lnC (lsF x0 (tl.take i))).toArray) ∧ Hid (Keeps (· = gl) w3 wr)) (fun iv _ => m' - (intOf iv).toNat)
  case atStart => exact ⟨0, by omega, rfl, HY, hide (Keeps.refl _ _)⟩
  case round =>
    obtain ⟨i, hi, rfl, HL, HK⟩ := hrel
    obtain ⟨wo, rfl⟩ : ∃ wo : World, wo = wr := ⟨_, rfl⟩
    by_cases hlt : i < m'
    · have e1 : decide (i < m') = true := by simpa using hlt
      obtain ⟨x, hx⟩ : ∃ x, tl[i]? = some x := ⟨tl[i]'(by rw [htl.out]; exact hlt), List.getElem?_eq_getElem _⟩
      have hs := hide (lsF_take x0 tl i x hx)
      have hxu := HU.out x (List.mem_cons_of_mem _ (List.mem_of_getElem? hx))
      have hau := HU.out _ ((List.mem_cons.1 (lsF_mem x0 (tl.take i))).elim (fun h => List.mem_cons.2 (.inl h)) (fun h => List.mem_cons_of_mem _ (List.mem_of_mem_take h)))
      generalize hA : lsF x0 (tl.take i) = a at *
      clear hA
      obtain ⟨b2, off2, rfl, _, q0, q1, q2⟩ := lnRd_at (R3.out.kept HK.out (fun q hq e => by have := hge.out; omega)) hx (by omega)
      obtain ⟨d0, d1, d2⟩ := ln_cells HL.out
      have f0 := HL.out.frozen 0
      have f1 := HL.out.frozen 1
      have f2 := HL.out.frozen 2
      have hgl := HL.out.lt
      clear hx
      by_cases hc : x.lo + x.hi ≤ a.lo + a.hi
      · rw [if_pos hc] at hs
        have e2 : decide (x.lo + x.hi ≤ a.lo + a.hi) = true := by simpa using hc
        obtain ⟨hs6, ks6⟩ := set_en HL.out x
        have H6 := hide (hs6.kept ((Keeps.refl (fun _ => False) _).alloc (.cells #[.string x.key, .int .u64 x.lo, .int .u64 x.hi] 53)) (fun h => h))
        have K6 := hide ((HK.out.trans ks6).alloc (.cells #[.string x.key, .int .u64 x.lo, .int .u64 x.hi] 53))
        clear hc hs6 ks6
        go_wp2_with fail
        go_roundw
        case rel => exact ⟨i + 1, by omega, by go_num, by rw [hs.out]; exact H6, K6⟩
        case measure => simp [intOf]; omega
      · rw [if_neg hc] at hs
        have e2 : decide (x.lo + x.hi ≤ a.lo + a.hi) = false := by simpa using hc
        clear hc
        go_wp2_with fail
        go_roundw
        case rel => exact ⟨i + 1, by omega, by go_num, by rw [hs.out]; exact hide (HL.out.kept ((Keeps.refl (fun _ => False) wo).alloc (.cells #[.string x.key, .int .u64 x.lo, .int .u64 x.hi] 53)) (fun h => h)), hide (HK.out.alloc _)⟩
        case measure => simp [intOf]; omega
    · have e1 : decide (i < m') = false := by simpa using hlt
      obtain rfl : i = m' := by omega
      rw [List.take_of_length_le (by rw [htl.out]; exact Nat.le_refl _)] at HL
      obtain ⟨d0, d1, d2⟩ := ln_cells HL.out
      have X4 := HX3.out.kept HK.out (fun e => by have := hge.out; omega)
      obtain ⟨x40, x41, x42⟩ := ln_cells X4
      have f0 := X4.frozen 0
      have f1 := X4.frozen 1
      have f2 := X4.frozen 2
      have hgr := X4.lt
      have hgl := HL.out.lt
      obtain ⟨hs6, ks6⟩ := set_en X4 (lsF x0 tl)
      obtain ⟨a, ha⟩ : ∃ a, a = lsF x0 tl := ⟨_, rfl⟩
      rw [← ha] at d0 d1 d2 hs6 ks6
      have HAe := hide ha
      clear X4 ha
      go_wp2_with fail
      obtain ⟨w6, hw6⟩ : ∃ w6, w6 = ((wo.setCell ⟨gr, 0, none⟩ (.string a.key)).setCell ⟨gr, 1, none⟩ (.int .u64 a.lo)).setCell ⟨gr, 2, none⟩ (.int .u64 a.hi) := ⟨_, rfl⟩
      rw [← hw6] at hs6 ks6 ⊢
      obtain ⟨r0, r1, r2⟩ := ln_cells hs6
      clear hw6
      refine bodyPost_ret (v := .tuple #[enV a, .bool true]) (by simp [results, Try.results45, go_sem, r0, r1, r2]) rfl ?_
      exact ⟨by rw [← HAe.out], ((K3.out.step HK.out (fun q hq e => by have := hge.out; omega)).step ks6 (fun q hq e => by have := hge.out; omega)).weak (fun _ _ h => h.elim)⟩
theorem lsF_self (x : Ln) (l : List Ln) : lsF x (x :: l) = lsF x l := by unfold lsF; rw [List.foldl_cons, if_pos (Int.le_refl _)]
theorem rleast_none (w : World) (s : Nat) (N : Int) (A : Option Addr) (c : Nat) (hb : Blk w s 80 #[.int .i64 N, .slice A 0 c]) : Calls Try.prog 53 #[.pointer (some ⟨s, 0, none⟩)] w fun e w' => e = .returned (.tuple #[enV en0, .bool false]) ∧ Keeps (fun _ => False) w w' := by
  have c1 := hb.cell 1
  have hsl := hb.lt
  clear hb
  go_enter Try.func53, Try.ntmps53
  go_wp2_with fail
  refine bodyPost_ret (v := .tuple #[enV en0, .bool false]) (by simp [results, Try.results53, go_sem]) rfl ?_
  exact ⟨rfl, (Keeps.refl _ _).alloc _⟩
set_option maxRecDepth 100000 in
set_option maxHeartbeats 1000000 in
theorem rleast_some (w : World) (B s : Nat) (N : Int) (A : Option Addr) (m c : Nat) (x0 : Ln) (tl : List Ln) (hb : Blk w s 80 #[.int .i64 N, .slice A m c]) (hr : Rd w B A 3 m (lnCs (x0 :: tl))) (hB : B ≤ w.heap.size) (hmc : m ≤ c) (hu : Nums (x0 :: tl)) (hm : m ≤ 1000000) :
    Calls Try.prog 53 #[.pointer (some ⟨s, 0, none⟩)] w fun e w' => e = .returned (.tuple #[enV (lsF x0 tl), .bool true]) ∧ Keeps (fun _ => False) w w' := by
  obtain ⟨m', hm'⟩ : ∃ m', m = m' + 1 := ⟨tl.length, by have := lnRd_len hr; simpa using this.symm⟩
  obtain ⟨w1, hw1⟩ : ∃ w1, w1 = w.alloc (.cells #[.string ⟨#[]⟩, .int .u64 0, .int .u64 0] 53) := ⟨_, rfl⟩
  obtain ⟨gr, hgr⟩ : ∃ gr, gr = w.heap.size := ⟨_, rfl⟩
  have k1 : Keeps (fun _ => False) w w1 := by rw [hw1]; exact (Keeps.refl _ _).alloc _
  have b1 := hb.kept k1 (fun h => h)
  have r1 := hr.kept k1 (fun _ _ h => h)
  obtain ⟨w3, hw3⟩ : ∃ w3, w3 = w1.alloc (.cells #[.string x0.key, .int .u64 x0.lo, .int .u64 x0.hi] 53) := ⟨_, rfl⟩
  obtain ⟨gl, hgl⟩ : ∃ gl, gl = w1.heap.size := ⟨_, rfl⟩
  have k3 : Keeps (fun _ => False) w1 w3 := by rw [hw3]; exact (Keeps.refl _ _).alloc _
  have HX : Hid (Blk w1 gr 53 (lnC en0).toArray) := hide (by rw [hw1, hgr]; exact Blk.new _ _ _)
  have HX3 : Hid (Blk w3 gr 53 (lnC en0).toArray) := hide (HX.out.kept k3 (fun h => h))
  have HY : Hid (Blk w3 gl 53 (lnC x0).toArray) := hide (by rw [hw3, hgl]; exact Blk.new _ _ _)
  have b3 := b1.kept k3 (fun h => h)
  have c11 := b1.cell 1
  have hs1 := b1.lt
  have c31 := b3.cell 1
  have hs3 := b3.lt
  have hl := lnRd_len hr
  obtain ⟨b, off, rfl, _, p0, p1, p2⟩ := lnRd_at r1 (i := 0) (x := x0) rfl (by omega)
  simp only [Nat.zero_mul, Nat.add_zero] at p0 p1 p2
  have r3 := r1.kept k3 (fun _ _ h => h)
  have R3 := hide r3
  have hx0 := hu x0 (List.mem_cons_self ..)
  have HU := hide hu
  have HG := hide hgr
  have HW := hide hw1
  have HG3 := hide hgl
  have HW3 := hide hw3
  have K3 := hide (k1.trans k3)
  have hge : Hid (w.heap.size ≤ gr ∧ gr < gl) := hide ⟨by omega, by have := HX.out.lt; omega⟩
  have hme : ((m : Int) == 0) = false := by simp; omega
  have hm0 : (0 : Int) < (m : Int) := by omega
  have hm0' : 0 < m := by omega
  have htl : Hid ((x0 :: tl).length = m) := hide hl
  have HM := hide hm'
  have hmb : m' ≤ 1000000 := by omega
  clear hb hr hw1 hgr hw3 hgl k1 k3 b1 b3 r1 r3 hu hl hm'
  go_enter Try.func53, Try.ntmps53
  go_upto_region 1 with fail
  rw [← HG.out, ← HW.out]
  go_upto_region 4 with fail
  rw [← HG3.out, ← HW3.out]
  go_upto_region 5 with fail
  clear c11 hs1 p0 p1 p2
  go_loopw [25] (fun iv wr => ∃ i : Nat, i ≤ m ∧ iv = .int .i64 (i : Int) ∧ Hid (Blk wr gl 53 (lnC (lsF x0 ((x0 :: tl).take i))).toArray) ∧ Hid (Keeps (· = gl) w3 wr)) (fun iv _ => m - (intOf iv).toNat)
  case atStart => exact ⟨0, by omega, rfl, HY, hide (Keeps.refl _ _)⟩
  case round =>
    obtain ⟨i, hi, rfl, HL, HK⟩ := hrel
    obtain ⟨wo, rfl⟩ : ∃ wo : World, wo = wr := ⟨_, rfl⟩
    by_cases hlt : i < m
    · have e1 : decide (i < m) = true := by simpa using hlt
      obtain ⟨x, hx⟩ : ∃ x, (x0 :: tl)[i]? = some x := ⟨(x0 :: tl)[i]'(by rw [htl.out]; exact hlt), List.getElem?_eq_getElem _⟩
      have hs := hide (lsF_take x0 (x0 :: tl) i x hx)
      have hxu := HU.out x (List.mem_of_getElem? hx)
      have hau := HU.out _ ((List.mem_cons.1 (lsF_mem x0 ((x0 :: tl).take i))).elim (fun h => List.mem_cons.2 (.inl h)) (fun h => List.mem_of_mem_take h))
      generalize hA : lsF x0 ((x0 :: tl).take i) = a at *
      clear hA
      obtain ⟨b2, off2, hbo, _, q0, q1, q2⟩ := lnRd_at (R3.out.kept HK.out (fun q hq e => by have := hge.out; omega)) hx (by omega)
      cases hbo
      obtain ⟨d0, d1, d2⟩ := ln_cells HL.out
      have f0 := HL.out.frozen 0
      have f1 := HL.out.frozen 1
      have f2 := HL.out.frozen 2
      have hgl := HL.out.lt
      clear hx
      by_cases hc : x.lo + x.hi ≤ a.lo + a.hi
      · rw [if_pos hc] at hs
        have e2 : decide (x.lo + x.hi ≤ a.lo + a.hi) = true := by simpa using hc
        obtain ⟨hs6, ks6⟩ := set_en HL.out x
        have H6 := hide (hs6.kept ((Keeps.refl (fun _ => False) _).alloc (.cells #[.string x.key, .int .u64 x.lo, .int .u64 x.hi] 53)) (fun h => h))
        have K6 := hide ((HK.out.trans ks6).alloc (.cells #[.string x.key, .int .u64 x.lo, .int .u64 x.hi] 53))
        clear hc hs6 ks6
        go_wp2_with fail
        go_roundw
        case rel => exact ⟨i + 1, by omega, by go_num, by rw [hs.out]; exact H6, K6⟩
        case measure => simp [intOf]; omega
      · rw [if_neg hc] at hs
        have e2 : decide (x.lo + x.hi ≤ a.lo + a.hi) = false := by simpa using hc
        clear hc
        go_wp2_with fail
        go_roundw
        case rel => exact ⟨i + 1, by omega, by go_num, by rw [hs.out]; exact hide (HL.out.kept ((Keeps.refl (fun _ => False) wo).alloc (.cells #[.string x.key, .int .u64 x.lo, .int .u64 x.hi] 53)) (fun h => h)), hide (HK.out.alloc _)⟩
        case measure => simp [intOf]; omega
    · have e1 : decide (i < m) = false := by simpa using hlt
      obtain rfl : i = m := by omega
      rw [List.take_of_length_le (by rw [htl.out]; exact Nat.le_refl _)] at HL
      obtain ⟨d0, d1, d2⟩ := ln_cells HL.out
      have X4 := HX3.out.kept HK.out (fun e => by have := hge.out; omega)
      obtain ⟨x40, x41, x42⟩ := ln_cells X4
      have f0 := X4.frozen 0
      have f1 := X4.frozen 1
      have f2 := X4.frozen 2
      have hgr := X4.lt
      have hgl := HL.out.lt
      obtain ⟨hs6, ks6⟩ := set_en X4 (lsF x0 (x0 :: tl))
      obtain ⟨a, ha⟩ : ∃ a, a = lsF x0 (x0 :: tl) := ⟨_, rfl⟩
      rw [← ha] at d0 d1 d2 hs6 ks6
      have HAe := hide ha
      clear X4 ha
      go_wp2_with fail
      obtain ⟨w6, hw6⟩ : ∃ w6, w6 = ((wo.setCell ⟨gr, 0, none⟩ (.string a.key)).setCell ⟨gr, 1, none⟩ (.int .u64 a.lo)).setCell ⟨gr, 2, none⟩ (.int .u64 a.hi) := ⟨_, rfl⟩
      rw [← hw6] at hs6 ks6 ⊢
      obtain ⟨r0, r1, r2⟩ := ln_cells hs6
      clear hw6
      refine bodyPost_ret (v := .tuple #[enV a, .bool true]) (by simp [results, Try.results53, go_sem, r0, r1, r2]) rfl ?_
      exact ⟨by rw [HAe.out, lsF_self], ((K3.out.step HK.out (fun q hq e => by have := hge.out; omega)).step ks6 (fun q hq e => by have := hge.out; omega)).weak (fun _ _ h => h.elim)⟩
end Go.Proofs.Ytmbgnekilgobaaa
