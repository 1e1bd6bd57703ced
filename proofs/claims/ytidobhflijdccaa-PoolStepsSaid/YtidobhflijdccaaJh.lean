

/-
  The reference's arena: Alloc. No conditions beyond those of the statement.
-/
import Derived.Test.YtidobhflijdccaaJg
import Derived.Test.YtidobhflijdccaaBf
set_option linter.unusedVariables false
set_option linter.unusedSimpArgs false
namespace Go.Proofs.Ytidobhflijdccaa
open Go.RowKit Cfp
theorem fk_no {sl : List RSl} {i j : Nat} {x : RSl} (h : fk sl i j = none) (hx : sl[j]? = some x) : x.c ≠ i := by
  intro e
  unfold fk at h
  rw [hx] at h
  dsimp only at h
  rw [if_pos e] at h
  cases h
theorem set_h {w : World} {g : Nat} {t : TypeId} {a b c : Value} (h : Blk w g t #[a, b, c]) (x y z : Value) :
    Blk (((w.setCell ⟨g, 0, none⟩ x).setCell ⟨g, 1, none⟩ y).setCell ⟨g, 2, none⟩ z) g t #[x, y, z] ∧ Keeps (· = g) w (((w.setCell ⟨g, 0, none⟩ x).setCell ⟨g, 1, none⟩ y).setCell ⟨g, 2, none⟩ z) := ⟨h.set3 x y z, keeps3 w g x y z⟩
set_option maxRecDepth 100000 in
theorem ralloc_range (w : World) (G : Nat → Prop) (b : Nat) (ρ : RA) (LA : Option Addr) (lc : Nat) (SA : Option Addr) (sc : Nat) (FA : Option Addr) (fc q : Nat) (size : Int) (h : RAm w G b ρ LA lc SA sc FA fc q) (hn8 : ρ.sh.length ≤ 8) (hr : size < 1 ∨ fitP ρ.sh size = ρ.sh.length) :
    Calls Try.prog 29 #[.pointer (some ⟨b, 0, none⟩), .int .i64 size] w fun e w' => e = .returned (.tuple #[.agg #[.int .i64 0, .int .i64 0, .int .i64 0], .int .i64 1]) ∧ Keeps (fun _ => False) w w' := by
  have hnf : ¬ (1 ≤ size ∧ fitP ρ.sh size < ρ.sh.length) := by omega
  have HI : Hid (fitI ρ.sh size = 0) := hide (by unfold fitI; rw [if_neg hnf])
  have HE : Hid (fitE ρ.sh size = 1) := hide (by unfold fitE; rw [if_neg hnf])
  obtain ⟨w1, hw1⟩ : ∃ w1, w1 = w.alloc (.cells #[.int .i64 0, .int .i64 0, .int .i64 0] 40) := ⟨_, rfl⟩
  obtain ⟨gr, hgr⟩ : ∃ gr, gr = w.heap.size := ⟨_, rfl⟩
  have k1 : Keeps (fun _ => False) w w1 := by rw [hw1]; exact (Keeps.refl _ _).alloc _
  have hr1 : Blk w1 gr 40 #[.int .i64 0, .int .i64 0, .int .i64 0] := by rw [hw1, hgr]; exact Blk.new _ _ _
  have h1 := h.quiet k1
  obtain ⟨nl, hnl⟩ : ∃ nl, nl = ρ.sh.length := ⟨_, rfl⟩
  rw [← hnl] at hn8
  have d0 := h1.blk.cell 0
  rw [← hnl] at d0
  have hbl := h1.blk.lt
  have HRL := hide (show Rd w1 w1.heap.size LA 2 nl (prs ρ.sh) from by rw [hnl]; exact h1.ls.rd (by omega))
  have H1 := hide h1
  have HR1 := hide hr1
  have HG := hide hgr
  have hgr' : w.heap.size ≤ gr := by omega
  have HW := hide hw1
  have K1 := hide k1
  have HNL := hide hnl
  clear h hw1 hgr k1 hr1 h1 hnl hnf
  go_enter Try.func29, Try.ntmps29
  go_upto_region 1 with fail
  rw [← HG.out, ← HW.out]
  go_wp2_with fail
  refine (rfit_any ρ.sh LA nl lc _ size w1 HRL.out (Nat.le_refl _) hn8).mono ?_
  rintro e w2 ⟨rfl, k2⟩
  rw [HI.out, HE.out]
  have r2 := HR1.out.kept k2 (fun h => h)
  obtain ⟨⟨q0, q1, q2⟩, ⟨f0, f1, f2⟩, hql⟩ := r2.three
  obtain ⟨hs6, ks6⟩ := set_h r2 (.int .i64 0) (.int .i64 0) (.int .i64 0)
  have K6 := hide ((K1.out.trans k2).step ks6 (fun p hp e => by omega))
  clear k2 r2 ks6
  go_wp2_with fail
  obtain ⟨w6, hw6⟩ : ∃ w6, w6 = ((w2.setCell ⟨gr, 0, none⟩ (.int .i64 0)).setCell ⟨gr, 1, none⟩ (.int .i64 0)).setCell ⟨gr, 2, none⟩ (.int .i64 0) := ⟨_, rfl⟩
  rw [← hw6] at hs6 K6 ⊢
  obtain ⟨⟨r0, r1, r2⟩, _⟩ := hs6.three
  clear hw6
  refine bodyPost_ret (v := .tuple #[.agg #[.int .i64 0, .int .i64 0, .int .i64 0], .int .i64 1]) (by simp [results, Try.results29, go_sem, r0, r1, r2]) rfl ?_
  exact ⟨rfl, K6.out⟩
set_option maxRecDepth 100000 in
set_option maxHeartbeats 2000000 in
theorem ralloc_full (w : World) (G : Nat → Prop) (b : Nat) (ρ : RA) (LA : Option Addr) (lc : Nat) (SA : Option Addr) (sc : Nat) (FA : Option Addr) (fc q : Nat) (size : Int) (i nx : Nat) (sz : Int × Int) (h : RAm w G b ρ LA lc SA sc FA fc q) (hn8 : ρ.sh.length ≤ 8) (hm : ρ.slots.length ≤ 1000000) (hfm : ρ.free.length ≤ 1000000) (hG : ∀ k, G k → k < w.heap.size) (h1s : 1 ≤ size) (hfit : fitP ρ.sh size = i) (hil : i < ρ.sh.length)
    (hfb : ∀ j ∈ ρ.free, j < ρ.slots.length) (hno : ∀ p j, 0 ≤ p → ρ.free[p]? = some j → fk ρ.slots i j = none) (hsz : ρ.sh[i]? = some sz) (hnl2 : ρ.next.length = ρ.sh.length) (hnx : ρ.next[i]? = some nx) (hfull : (nx : Int) = sz.2) :
    Calls Try.prog 29 #[.pointer (some ⟨b, 0, none⟩), .int .i64 size] w fun e w' => e = .returned (.tuple #[.agg #[.int .i64 0, .int .i64 0, .int .i64 0], .int .i64 7]) ∧ Keeps (fun _ => False) w w' := by
  have HSZ := hide hsz
  have HNX := hide hnx
  have HN2 := hide hnl2
  have e5 : ((nx : Int) == sz.2) = true := by simpa using hfull
  clear hsz hnx hfull hnl2
  have HI : Hid (fitI ρ.sh size = (i : Int)) := hide (by unfold fitI; rw [if_pos ⟨h1s, by omega⟩, hfit])
  have HE : Hid (fitE ρ.sh size = 0) := hide (by unfold fitE; rw [if_pos ⟨h1s, by omega⟩])
  obtain ⟨w1, hw1⟩ : ∃ w1, w1 = w.alloc (.cells #[.int .i64 0, .int .i64 0, .int .i64 0] 40) := ⟨_, rfl⟩
  obtain ⟨gr, hgr⟩ : ∃ gr, gr = w.heap.size := ⟨_, rfl⟩
  have k1 : Keeps (fun _ => False) w w1 := by rw [hw1]; exact (Keeps.refl _ _).alloc _
  have hr1 : Blk w1 gr 40 #[.int .i64 0, .int .i64 0, .int .i64 0] := by rw [hw1, hgr]; exact Blk.new _ _ _
  have h1 := h.quiet k1
  obtain ⟨nl, hnl⟩ : ∃ nl, nl = ρ.sh.length := ⟨_, rfl⟩
  rw [← hnl] at hn8
  have d0 := h1.blk.cell 0
  rw [← hnl] at d0
  have hbl := h1.blk.lt
  have HRL := hide (show Rd w1 w1.heap.size LA 2 nl (prs ρ.sh) from by rw [hnl]; exact h1.ls.rd (by omega))
  have H1 := hide h1
  have HR1 := hide hr1
  have HG := hide hgr
  have hgr' : w.heap.size ≤ gr := by omega
  have HW := hide hw1
  have K1 := hide k1
  have HNL := hide hnl
  have HFB := hide hfb
  have HNo := hide hno
  have HFit := hide hfit
  have hil' : i < nl := by omega
  obtain ⟨f, hff⟩ : ∃ f, f = ρ.free.length := ⟨_, rfl⟩
  obtain ⟨m, hmm⟩ : ∃ m, m = ρ.slots.length := ⟨_, rfl⟩
  rw [← hff] at hfm
  have HF := hide hff
  have HM := hide hmm
  have HGG := hide hG
  have hiI : (i : Int) < (nl : Int) := by omega
  have hi0 : (0 : Int) ≤ (i : Int) := by omega
  clear h hw1 hgr k1 hr1 h1 hnl hfb hno hfit hff hmm hG hil
  go_enter Try.func29, Try.ntmps29
  go_upto_region 1 with fail
  rw [← HG.out, ← HW.out]
  go_wp2_with fail
  refine (rfit_any ρ.sh LA nl lc _ size w1 HRL.out (Nat.le_refl _) hn8).mono ?_
  rintro e w2 ⟨rfl, k2⟩
  rw [HI.out, HE.out]
  have h2 := H1.out.quiet k2
  have r2 := HR1.out.kept k2 (fun h => h)
  have d2 := h2.blk.cell 2
  rw [← HF.out] at d2
  have d1 := h2.blk.cell 1
  rw [← HM.out] at d1
  have hbl2 := h2.blk.lt
  have H2 := hide h2
  have HR2 := hide r2
  have K2 := hide (K1.out.trans k2)
  have hz2 := k2.size
  clear k2 r2 h2 d0 hbl H1 HR1 HRL HW
  go_upto_region 5 with fail
  go_loopw [8] (fun iv wr => ∃ (P kd : Nat) (z : Int), z = (P : Int) - 1 ∧ 0 ≤ P ∧ P ≤ f ∧ iv = .int .i64 z ∧ wr = w2.drewN kd) (fun iv _ => ((intOf iv) + 1).toNat)
  case atStart => exact ⟨f, 0, _, rfl, by have := HF.out; omega, Nat.le_refl _, rfl, rfl⟩
  case round =>
    obtain ⟨P, kd, z, hz, hP1, hP2, rfl, rfl⟩ := hrel
    by_cases hP : 1 ≤ P
    ·
      obtain ⟨p', rfl⟩ : ∃ p', P = p' + 1 := ⟨P - 1, by omega⟩
      obtain rfl : z = (p' : Int) := by omega
      clear hz
      have hfo := H2.out.fr
      rw [← HF.out] at hfo
      obtain ⟨gf, rfl, _⟩ := Own.some_ hfo (by omega)
      obtain ⟨j', hj'⟩ : ∃ j', ρ.free[p']? = some j' := ⟨ρ.free[p']'(by have := HF.out; omega), List.getElem?_eq_getElem _⟩
      have hjl := HFB.out j' (List.mem_of_getElem? hj')
      obtain ⟨x', hx'⟩ : ∃ x', ρ.slots[j']? = some x' := ⟨ρ.slots[j']'hjl, List.getElem?_eq_getElem _⟩
      have hne := fk_no (HNo.out p' j' (by omega) hj') hx'
      have hso := H2.out.sl
      rw [← HM.out] at hso hjl
      obtain ⟨gs, rfl, _⟩ := Own.some_ hso (by omega)
      have cj : w2.cell? ⟨gf, p', none⟩ = some (.int .i64 (j' : Int)) := (hfo.cell p' (by omega)).trans (intCs_at hj')
      obtain ⟨c0, _⟩ := rsl_at hso hx'
      have e3 : ((x'.c : Int) == (i : Int)) = false := by simp; omega
      have e4 : (x'.c == i) = false := by simpa using hne
      have hpI : (p' : Int) < (f : Int) := by omega
      have hp0 : (0 : Int) ≤ (p' : Int) := by omega
      have hjI : (j' : Int) < (m : Int) := by omega
      have hj0 : (0 : Int) ≤ (j' : Int) := by omega
      have hgf := (hfo.inB ((inB_some _ _ _).2 rfl)).2
      have hgs := (hso.inB ((inB_some _ _ _).2 rfl)).2
      clear hj' hx' hne hfo hso
      go_upto_region 7 with fail
      go_quiet (fail)
      go_wp2_with fail
      go_roundw
      case rel => exact ⟨p', kd + nq, _, rfl, by omega, by omega, rfl, by first | rfl | simp [World.drewN, Nat.add_assoc]⟩
      case measure => simp [intOf] <;> omega
    · obtain rfl : P = 0 := by omega
      obtain rfl : z = -1 := by omega
      clear hz hP hP1 hP2
      have h2 := H2.out
      have d3 := h2.blk.cell 3
      rw [HN2.out, ← HNL.out] at d3
      have d0 := h2.blk.cell 0
      rw [← HNL.out] at d0
      have hl0 := h2.ls
      rw [← HNL.out] at hl0
      obtain ⟨gl, rfl, _⟩ := Own.some_ hl0 (by omega)
      obtain ⟨l0, l1⟩ := prs_cells hl0 HSZ.out
      have cn : w2.cell? ⟨q, i, none⟩ = some (.int .i64 (nx : Int)) := (h2.nx.cell i).trans (by simp; exact ⟨nx, HNX.out, rfl⟩)
      have hqll := h2.nx.lt
      have hgll := (hl0.inB ((inB_some _ _ _).2 rfl)).2
      obtain ⟨⟨q0, q1, q2⟩, ⟨f0, f1, f2⟩, hql⟩ := HR2.out.three
      clear h2 hl0
      go_upto_region 13 with fail
      go_quiet (fail)
      obtain ⟨w3, hw3⟩ : ∃ w3 : World, w3 = (w2.drewN kd).drewN nq := ⟨_, rfl⟩
      first | rw [← hw3] | (rw [World.drewN_drewN] at hw3; rw [← hw3])
      have k3 : Keeps (fun _ => False) w2 w3 := by rw [hw3]; first | exact ((Keeps.refl _ _).drewN _).drewN _ | exact (Keeps.refl _ _).drewN _
      have r3 := HR2.out.kept k3 (fun h => h)
      clear q0 q1 q2 f0 f1 f2 hql
      obtain ⟨⟨q0, q1, q2⟩, ⟨f0, f1, f2⟩, hql⟩ := r3.three
      obtain ⟨hs6, ks6⟩ := set_h r3 (.int .i64 0) (.int .i64 0) (.int .i64 0)
      have K6 := hide ((K2.out.trans k3).step ks6 (fun p hp e => by omega))
      clear k3 hw3 ks6 r3
      go_wp2_with fail
      obtain ⟨w6, hw6⟩ : ∃ w6, w6 = ((w3.setCell ⟨gr, 0, none⟩ (.int .i64 0)).setCell ⟨gr, 1, none⟩ (.int .i64 0)).setCell ⟨gr, 2, none⟩ (.int .i64 0) := ⟨_, rfl⟩
      rw [← hw6] at hs6 K6 ⊢
      obtain ⟨⟨r0, r1, r2⟩, _⟩ := hs6.three
      clear hw6
      refine bodyPost_ret (v := .tuple #[.agg #[.int .i64 0, .int .i64 0, .int .i64 0], .int .i64 7]) (by simp [results, Try.results29, go_sem, r0, r1, r2]) rfl ?_
      exact ⟨rfl, K6.out⟩
end Go.Proofs.Ytidobhflijdccaa
