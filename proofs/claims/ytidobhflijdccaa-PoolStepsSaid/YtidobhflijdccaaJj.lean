


/-
  The reference's arena: Alloc of a slot that is new. No conditions beyond those of the statement.
-/
import Derived.Test.YtidobhflijdccaaJi
set_option linter.unusedVariables false
set_option linter.unusedSimpArgs false
namespace Go.Proofs.Ytidobhflijdccaa
open Go.RowKit Cfp
set_option maxRecDepth 100000 in
set_option maxHeartbeats 2000000 in
theorem ralloc_fresh (w : World) (G : Nat → Prop) (b : Nat) (ρ : RA) (LA : Option Addr) (lc : Nat) (SA : Option Addr) (sc : Nat) (FA : Option Addr) (fc q : Nat) (size : Int) (i nx : Nat) (sz : Int × Int) (h : RAm w G b ρ LA lc SA sc FA fc q) (hn8 : ρ.sh.length ≤ 8) (hm : ρ.slots.length ≤ 1000000) (hfm : ρ.free.length ≤ 1000000) (hG : ∀ k, G k → k < w.heap.size) (h1s : 1 ≤ size) (hfit : fitP ρ.sh size = i) (hil : i < ρ.sh.length)
    (hfb : ∀ j ∈ ρ.free, j < ρ.slots.length) (hno : ∀ p j, 0 ≤ p → ρ.free[p]? = some j → fk ρ.slots i j = none) (hsz : ρ.sh[i]? = some sz) (hnl2 : ρ.next.length = ρ.sh.length) (hnx : ρ.next[i]? = some nx) (hroom : (nx : Int) < sz.2) (hszb : sz.2 ≤ 65536) :
    Calls Try.prog 29 #[.pointer (some ⟨b, 0, none⟩), .int .i64 size] w fun e w' => e = .returned (.tuple #[.agg #[.int .i64 (i : Int), .int .i64 (nx : Int), .int .i64 1], .int .i64 0]) ∧
      IsRA w' G b { ρ with slots := ρ.slots ++ [⟨i, nx, 1, true, none, 0, []⟩], next := ρ.next.set i (nx + 1) } ∧ Keeps (RS G w) w w' := by
  have HSZ := hide hsz
  have HNX := hide hnx
  have HN2 := hide hnl2
  have HRSb := hide (RS.arena h)
  have HRSq := hide (RS.next h)
  have HRSs : Hid (∀ k, inB SA k → RS G w k) := hide (fun k hk => RS.slots h hk)
  have e5 : ((nx : Int) == sz.2) = false := by simp; omega
  obtain ⟨nx1, hnx1⟩ : ∃ nx1, nx1 = nx + 1 := ⟨_, rfl⟩
  have wnx : IntKind.i64.wrap ((nx : Int) + 1) = (nx1 : Int) := by rw [IntWalk.i64_in _ (by omega)]; omega
  have HNX1 := hide hnx1
  clear hsz hnx hroom hnl2 hnx1
  have HI : Hid (fitI ρ.sh size = (i : Int)) := hide (by unfold fitI; rw [if_pos ⟨h1s, by omega⟩, hfit])
  have HE : Hid (fitE ρ.sh size = 0) := hide (by unfold fitE; rw [if_pos ⟨h1s, by omega⟩])
  obtain ⟨w1, hw1⟩ : ∃ w1, w1 = w.alloc (.cells #[.int .i64 0, .int .i64 0, .int .i64 0] 40) := ⟨_, rfl⟩
  obtain ⟨gr, hgr⟩ : ∃ gr, gr = w.heap.size := ⟨_, rfl⟩
  have k1 : Keeps (fun _ => False) w w1 := by rw [hw1]; exact (Keeps.refl _ _).alloc _
  have hr1 : Blk w1 gr 40 #[.int .i64 0, .int .i64 0, .int .i64 0] := by rw [hw1, hgr]; exact Blk.new _ _ _
  have h1 := h.quiet k1
  obtain ⟨nl, hnl⟩ : ∃ nl, nl = ρ.sh.length := ⟨_, rfl⟩
  rw [← hnl] at hn8
  have d0 := h1.blk.cell 0
  rw [← hnl] at d0
  have hbl := h1.blk.lt
  have HRL := hide (show Rd w1 w1.heap.size LA 2 nl (prs ρ.sh) from by rw [hnl]; exact h1.ls.rd (by omega))
  have H1 := hide h1
  have HR1 := hide hr1
  have HG := hide hgr
  have hgr' : w.heap.size ≤ gr := by omega
  have HW := hide hw1
  have K1 := hide k1
  have HNL := hide hnl
  have HFB := hide hfb
  have HNo := hide hno
  have HFit := hide hfit
  have hil' : i < nl := by omega
  obtain ⟨f, hff⟩ : ∃ f, f = ρ.free.length := ⟨_, rfl⟩
  obtain ⟨m, hmm⟩ : ∃ m, m = ρ.slots.length := ⟨_, rfl⟩
  rw [← hff] at hfm
  have HF := hide hff
  have HM := hide hmm
  have HGG := hide hG
  have hiI : (i : Int) < (nl : Int) := by omega
  have hi0 : (0 : Int) ≤ (i : Int) := by omega
  clear h hw1 hgr k1 hr1 h1 hnl hfb hno hfit hff hmm hG hil
  go_enter Try.func29, Try.ntmps29
  go_upto_region 1 with fail
  rw [← HG.out, ← HW.out]
  go_wp2_with fail
  refine (rfit_any ρ.sh LA nl lc _ size w1 HRL.out (Nat.le_refl _) hn8).mono ?_
  rintro e w2 ⟨rfl, k2⟩
  rw [HI.out, HE.out]
  have h2 := H1.out.quiet k2
  have r2 := HR1.out.kept k2 (fun h => h)
  have d2 := h2.blk.cell 2
  rw [← HF.out] at d2
  have d1 := h2.blk.cell 1
  rw [← HM.out] at d1
  have hbl2 := h2.blk.lt
  have H2 := hide h2
  have HR2 := hide r2
  have K2 := hide (K1.out.trans k2)
  have hz2 := k2.size
  clear k2 r2 h2 d0 hbl H1 HR1 HRL HW
  go_upto_region 5 with fail
  go_loopw [8] (fun iv wr => ∃ (P kd : Nat) (z : Int), z = (P : Int) - 1 ∧ 0 ≤ P ∧ P ≤ f ∧ iv = .int .i64 z ∧ wr = w2.drewN kd) (fun iv _ => ((intOf iv) + 1).toNat)
  case atStart => exact ⟨f, 0, _, rfl, by have := HF.out; omega, Nat.le_refl _, rfl, rfl⟩
  case round =>
    obtain ⟨P, kd, z, hz, hP1, hP2, rfl, rfl⟩ := hrel
    by_cases hP : 1 ≤ P
    ·
      obtain ⟨p', rfl⟩ : ∃ p', P = p' + 1 := ⟨P - 1, by omega⟩
      obtain rfl : z = (p' : Int) := by omega
      clear hz
      have hfo := H2.out.fr
      rw [← HF.out] at hfo
      obtain ⟨gf, rfl, _⟩ := Own.some_ hfo (by omega)
      obtain ⟨j', hj'⟩ : ∃ j', ρ.free[p']? = some j' := ⟨ρ.free[p']'(by have := HF.out; omega), List.getElem?_eq_getElem _⟩
      have hjl := HFB.out j' (List.mem_of_getElem? hj')
      obtain ⟨x', hx'⟩ : ∃ x', ρ.slots[j']? = some x' := ⟨ρ.slots[j']'hjl, List.getElem?_eq_getElem _⟩
      have hne := fk_no (HNo.out p' j' (by omega) hj') hx'
      have hso := H2.out.sl
      rw [← HM.out] at hso hjl
      obtain ⟨gs, rfl, _⟩ := Own.some_ hso (by omega)
      have cj : w2.cell? ⟨gf, p', none⟩ = some (.int .i64 (j' : Int)) := (hfo.cell p' (by omega)).trans (intCs_at hj')
      obtain ⟨c0, _⟩ := rsl_at hso hx'
      have e3 : ((x'.c : Int) == (i : Int)) = false := by simp; omega
      have e4 : (x'.c == i) = false := by simpa using hne
      have hpI : (p' : Int) < (f : Int) := by omega
      have hp0 : (0 : Int) ≤ (p' : Int) := by omega
      have hjI : (j' : Int) < (m : Int) := by omega
      have hj0 : (0 : Int) ≤ (j' : Int) := by omega
      have hgf := (hfo.inB ((inB_some _ _ _).2 rfl)).2
      have hgs := (hso.inB ((inB_some _ _ _).2 rfl)).2
      clear hj' hx' hne hfo hso
      go_upto_region 7 with fail
      go_quiet (fail)
      go_wp2_with fail
      go_roundw
      case rel => exact ⟨p', kd + nq, _, rfl, by omega, by omega, rfl, by first | rfl | simp [World.drewN, Nat.add_assoc]⟩
      case measure => simp [intOf] <;> omega
    · obtain rfl : P = 0 := by omega
      obtain rfl : z = -1 := by omega
      clear hz hP hP1 hP2
      have h2 := H2.out
      have d3 := h2.blk.cell 3
      rw [HN2.out, ← HNL.out] at d3
      have d0 := h2.blk.cell 0
      rw [← HNL.out] at d0
      have hl0 := h2.ls
      rw [← HNL.out] at hl0
      obtain ⟨gl, rfl, _⟩ := Own.some_ hl0 (by omega)
      obtain ⟨l0, l1⟩ := prs_cells hl0 HSZ.out
      have cn : w2.cell? ⟨q, i, none⟩ = some (.int .i64 (nx : Int)) := (h2.nx.cell i).trans (by simp; exact ⟨nx, HNX.out, rfl⟩)
      have hqll := h2.nx.lt
      have hgll := (hl0.inB ((inB_some _ _ _).2 rfl)).2
      clear h2 hl0
      go_upto_region 13 with fail
      go_quiet (fail)
      obtain ⟨w3, hw3⟩ : ∃ w3 : World, w3 = (w2.drewN kd).drewN nq := ⟨_, rfl⟩
      first | rw [← hw3] | (rw [World.drewN_drewN] at hw3; rw [← hw3])
      have k3 : Keeps (fun _ => False) w2 w3 := by rw [hw3]; first | exact ((Keeps.refl _ _).drewN _).drewN _ | exact (Keeps.refl _ _).drewN _
      obtain ⟨gh, hgh⟩ : ∃ gh, gh = w3.heap.size := ⟨_, rfl⟩
      obtain ⟨w4, hw4⟩ : ∃ w4, w4 = w3.alloc (.cells #[.int .i64 (i : Int), .int .i64 (nx : Int), .int .i64 1] 40) := ⟨_, rfl⟩
      have k34 : Keeps (fun _ => False) w3 w4 := by rw [hw4]; exact (Keeps.refl _ _).alloc _
      have k4 : Keeps (fun _ => False) w2 w4 := k3.trans k34
      have h4 := H2.out.quiet k4
      have r4 := HR2.out.kept k4 (fun h => h)
      have g4 : Blk w4 gh 40 #[.int .i64 (i : Int), .int .i64 (nx : Int), .int .i64 1] := by rw [hw4, hgh]; exact Blk.new _ _ _
      have cn3 := k3.cell_some cn (fun h => h)
      have d33 := (H2.out.quiet k3).blk.cell 3
      rw [HN2.out, ← HNL.out] at d33
      have hbl3 := (H2.out.quiet k3).blk.lt
      have hql3 := (H2.out.quiet k3).nx.lt
      have H4 := hide h4
      have HR4 := hide r4
      have HG4 := hide g4
      have K4 := hide (K2.out.trans k4)
      have hz4 := K4.out.size
      have HGH := hide hgh
      have HW4 := hide hw4
      clear d0 d1 d2 d3 hbl2 l0 l1 cn hqll hgll hgh k3 k34 k4 h4 r4 g4 hw3 hw4
      go_upto_region 16 with fail
      rw [← HGH.out, ← HW4.out]
      clear cn3 d33 hbl3 hql3
      have cn4 : w4.cell? ⟨q, i, none⟩ = some (.int .i64 (nx : Int)) := (H4.out.nx.cell i).trans (by simp; exact ⟨nx, HNX.out, rfl⟩)
      have fn4 := H4.out.nx.frozen i
      have hql4 := H4.out.nx.lt
      have d43 := H4.out.blk.cell 3
      rw [HN2.out, ← HNL.out] at d43
      have hbl4 := H4.out.blk.lt
      have h5 := H4.out.setNext i nx1
      have k5 := keepsOne w4 q i (.int .i64 (nx1 : Int))
      have g5 := HG4.out.kept k5 (fun e => HG4.out.ne H4.out.nx (by decide) e)
      have r5 := HR4.out.kept k5 (fun e => HR4.out.ne H4.out.nx (by decide) e)
      obtain ⟨w5, hw5⟩ : ∃ w5, w5 = w4.setCell ⟨q, i, none⟩ (.int .i64 (nx1 : Int)) := ⟨_, rfl⟩
      rw [← hw5] at h5 k5 g5 r5
      have K5 := hide ((K4.out.weak (S' := RS G w) (fun _ _ h => h.elim)).step k5 (fun k hk e => e ▸ HRSq.out))
      have H5 := hide h5
      have HG5 := hide g5
      have HR5 := hide r5
      have HW5 := hide hw5
      clear h5 k5 g5 r5 hw5
      go_upto_region 17 with fail
      rw [← HW5.out]
      clear cn4 fn4 hql4 d43 hbl4
      have hmm2 : m ≤ 1000000 := by have := HM.out; omega
      have d51 := H5.out.blk.cell 1
      dsimp only at d51
      rw [← HM.out] at d51
      have hbl5 := H5.out.blk.lt
      obtain ⟨⟨p0, p1, p2⟩, _, hgl5⟩ := HG5.out.three
      have so := H5.out.sl
      dsimp only at so
      rw [← HM.out] at so
      have SO := hide so
      have HSg : Hid (∀ W, Keeps (inB SA) w5 W → (W.cell? ⟨b, 1, none⟩ = some (.slice SA m sc) ∧ W.cell? ⟨gh, 0, none⟩ = some (.int .i64 (i : Int)) ∧ W.cell? ⟨gh, 1, none⟩ = some (.int .i64 (nx : Int)) ∧ W.cell? ⟨gh, 2, none⟩ = some (.int .i64 1))) := hide (fun W kW =>
        have nb : ¬ inB SA b := fun e => so.ne_blk H5.out.blk (by decide) e rfl
        have ng : ¬ inB SA gh := fun e => so.ne_blk HG5.out (by decide) e rfl
        ⟨kW.cell_some d51 nb, kW.cell_some p0 ng, kW.cell_some p1 ng, kW.cell_some p2 ng⟩)
      clear so
      refine wp_region_N 11 (S := fun W => W.cell? ⟨b, 1, none⟩ = some (.slice SA m sc) ∧ W.cell? ⟨gh, 0, none⟩ = some (.int .i64 (i : Int)) ∧ W.cell? ⟨gh, 1, none⟩ = some (.int .i64 (nx : Int)) ∧ W.cell? ⟨gh, 2, none⟩ = some (.int .i64 1)) (by kernel_rfl) (HSg.out _ ((Keeps.refl _ _).drew)) (fun hHeld => ?_)
      refine wpAnyN_take (i := 0) (v := ?_) rfl (by kernel_rfl) (by kernel_rfl) (by kernel_rfl) (by kernel_rfl) (by kernel_rfl) (by kernel_rfl) (fun _ _ _ h => h) (Or.inl ⟨by first | kernel_rfl | rfl, ?_⟩) (by assumption) ?_; rotate_left; focus (intro w hSw; (try dsimp only at hSw); go_simp; try (with_reducible rfl)); (try simp only [Act.put, List.getElem_toArray, List.getElem_cons_succ, List.getElem_cons_zero, List.setIfInBounds_toArray, List.set_cons_zero, List.set_cons_succ])
      refine wpAnyN_take (i := 1) (v := ?_) rfl (by kernel_rfl) (by kernel_rfl) (by kernel_rfl) (by kernel_rfl) (by kernel_rfl) (by kernel_rfl) (fun _ _ _ h => h) (Or.inl ⟨by first | kernel_rfl | rfl, ?_⟩) (by assumption) ?_; rotate_left; focus (intro w hSw; (try dsimp only at hSw); go_simp; try (with_reducible rfl)); (try simp only [Act.put, List.getElem_toArray, List.getElem_cons_succ, List.getElem_cons_zero, List.setIfInBounds_toArray, List.set_cons_zero, List.set_cons_succ])
      refine wpAnyN_take (i := 2) (v := ?_) rfl (by kernel_rfl) (by kernel_rfl) (by kernel_rfl) (by kernel_rfl) (by kernel_rfl) (by kernel_rfl) (fun _ _ _ h => h) (Or.inl ⟨by first | kernel_rfl | rfl, ?_⟩) (by assumption) ?_; rotate_left; focus (intro w hSw; (try dsimp only at hSw); go_simp; try (with_reducible rfl)); (try simp only [Act.put, List.getElem_toArray, List.getElem_cons_succ, List.getElem_cons_zero, List.setIfInBounds_toArray, List.set_cons_zero, List.set_cons_succ])
      refine wpAnyN_take (i := 3) (v := ?_) rfl (by kernel_rfl) (by kernel_rfl) (by kernel_rfl) (by kernel_rfl) (by kernel_rfl) (by kernel_rfl) (fun _ _ _ h => h) (Or.inl ⟨by first | kernel_rfl | rfl, ?_⟩) (by assumption) ?_; rotate_left; focus (intro w hSw; (try dsimp only at hSw); go_simp; try (with_reducible rfl)); (try simp only [Act.put, List.getElem_toArray, List.getElem_cons_succ, List.getElem_cons_zero, List.setIfInBounds_toArray, List.set_cons_zero, List.set_cons_succ])
      refine wpAnyN_take (i := 4) (v := ?_) rfl (by kernel_rfl) (by kernel_rfl) (by kernel_rfl) (by kernel_rfl) (by kernel_rfl) (by kernel_rfl) (fun _ _ _ h => h) (Or.inl ⟨by first | kernel_rfl | rfl, ?_⟩) (by assumption) ?_; rotate_left; focus (intro w hSw; (try dsimp only at hSw); go_simp; try (with_reducible rfl)); (try simp only [Act.put, List.getElem_toArray, List.getElem_cons_succ, List.getElem_cons_zero, List.setIfInBounds_toArray, List.set_cons_zero, List.set_cons_succ])
      refine wpAnyN_take (i := 5) (v := ?_) rfl (by kernel_rfl) (by kernel_rfl) (by kernel_rfl) (by kernel_rfl) (by kernel_rfl) (by kernel_rfl) (fun _ _ _ h => h) (Or.inl ⟨by first | kernel_rfl | rfl, ?_⟩) (by assumption) ?_; rotate_left; focus (intro w hSw; (try dsimp only at hSw); go_simp; try (with_reducible rfl)); (try simp only [Act.put, List.getElem_toArray, List.getElem_cons_succ, List.getElem_cons_zero, List.setIfInBounds_toArray, List.set_cons_zero, List.set_cons_succ])
      refine wpAnyN_take (i := 6) (v := ?_) rfl (by kernel_rfl) (by kernel_rfl) (by kernel_rfl) (by kernel_rfl) (by kernel_rfl) (by kernel_rfl) (fun _ _ _ h => h) (Or.inl ⟨by first | kernel_rfl | rfl, ?_⟩) (by assumption) ?_; rotate_left; focus (intro w hSw; (try dsimp only at hSw); go_simp; try (with_reducible rfl)); (try simp only [Act.put, List.getElem_toArray, List.getElem_cons_succ, List.getElem_cons_zero, List.setIfInBounds_toArray, List.set_cons_zero, List.set_cons_succ])
      refine wpAnyN_one (i := 7) (by kernel_rfl) rfl (fun K hK => ?_)
      go_simp
      have k6 := ((Keeps.refl (fun _ => False) w5).drew).alloc (.cells #[.int .i64 (i : Int), .int .i64 (nx : Int), .int .i64 1, .bool true, .slice none 0 0] 139)
      refine hK.out _ _ (HSg.out _ (k6.weak (fun _ _ h => h.elim))) (fun _ => ?_)
      clear hK K
      (try simp only [Act.put, List.getElem_toArray, List.getElem_cons_succ, List.getElem_cons_zero, List.setIfInBounds_toArray, List.set_cons_zero, List.set_cons_succ])
      refine wpAnyN_one (i := 8) (by kernel_rfl) rfl (fun K hK => ?_)
      refine step_app _ elemRsl (by rfl) (.tmp 130) (.tmp 133) (by rfl) 0 (A := SA) (n := m) (c := sc) (rslCs ρ.slots) (by simp [Act.eval, Act.put]) (SO.out.kept k6 (fun _ _ h => h)) _ (A2 := some ⟨w5.heap.size, 0, none⟩) (m := 1) (c2 := 1) (rslC ⟨i, nx, 1, true, none, 0, []⟩) (by simp [Act.eval, Act.put]) (by exact Blk.rd (xs := rslC ⟨i, nx, 1, true, none, 0, []⟩) (Blk.new_at _ _ _ _ (by simp)) rfl) (rslC_one _) (by simp only [maxLen]; omega) (by omega) (by omega) ?_
      intro A8 c8 w8 o8 k8 hA8
      have O8 := hide o8
      have K8 := hide ((k6.weak (S' := inB SA) (fun _ _ h => h.elim)).trans k8)
      have HA8 := hide hA8
      have nb : ¬ inB SA b := fun e => SO.out.ne_blk H5.out.blk (by decide) e rfl
      have b8 := H5.out.blk.kept K8.out nb
      have d81 := b8.cell 1
      have f81 := b8.frozen 1
      have hbl8 := b8.lt
      clear o8 k8 hA8 b8 k6 nb
      refine hK.out _ _ (HSg.out _ K8.out) (fun _ => ?_)
      clear hK K
      (try simp only [Act.put, List.getElem_toArray, List.getElem_cons_succ, List.getElem_cons_zero, List.setIfInBounds_toArray, List.set_cons_zero, List.set_cons_succ])
      refine wpAnyN_take (i := 9) (v := ?_) rfl (by kernel_rfl) (by kernel_rfl) (by kernel_rfl) (by kernel_rfl) (by kernel_rfl) (by kernel_rfl) (fun _ _ _ h => h) (Or.inl ⟨by first | kernel_rfl | rfl, ?_⟩) (by assumption) ?_; rotate_left; focus (intro w hSw; (try dsimp only at hSw); go_simp; try (with_reducible rfl)); (try simp only [Act.put, List.getElem_toArray, List.getElem_cons_succ, List.getElem_cons_zero, List.setIfInBounds_toArray, List.set_cons_zero, List.set_cons_succ])
      refine wpAnyN_take (i := 10) (v := ?_) rfl (by kernel_rfl) (by kernel_rfl) (by kernel_rfl) (by kernel_rfl) (by kernel_rfl) (by kernel_rfl) (fun _ _ _ h => h) (Or.inl ⟨by first | kernel_rfl | rfl, ?_⟩) (by assumption) ?_; rotate_left; focus (intro w hSw; (try dsimp only at hSw); go_simp; try (with_reducible rfl)); (try simp only [Act.put, List.getElem_toArray, List.getElem_cons_succ, List.getElem_cons_zero, List.setIfInBounds_toArray, List.set_cons_zero, List.set_cons_succ])
      refine wpAnyN_last (by kernel_rfl) rfl (fun K hK => ?_)
      go_simp
      refine hK.out _ _ ?_
      clear hK K hHeld
      (try simp only [Act.put, List.getElem_toArray, List.getElem_cons_succ, List.getElem_cons_zero, List.setIfInBounds_toArray, List.set_cons_zero, List.set_cons_succ])
      refine wpAnyN_done (by kernel_rfl) ?_ _
      (try simp only [Act.put, List.getElem_toArray, List.getElem_cons_succ, List.getElem_cons_zero, List.setIfInBounds_toArray, List.set_cons_zero, List.set_cons_succ])
      have hll : (ρ.slots ++ [(⟨i, nx, 1, true, none, 0, []⟩ : RSl)]).length = m + 1 := by rw [List.length_append, ← HM.out]; rfl
      have ho8 : Own w8 0 139 5 A8 (ρ.slots ++ [(⟨i, nx, 1, true, none, 0, []⟩ : RSl)]).length c8 (rslCs (ρ.slots ++ [(⟨i, nx, 1, true, none, 0, []⟩ : RSl)])) := by
        rw [hll, rslCs_app]
        exact O8.out
      have h9 := H5.out.newSlots K8.out _ ho8 (fun y hy => by
        rcases List.mem_append.1 hy with hy | hy
        · exact .inl hy
        · rw [List.mem_singleton.1 hy]; exact .inr ⟨rfl, rfl, rfl⟩) (fun k hk e => by
        rcases HA8.out k hk with h | h
        · exact H5.out.gs k h e
        · have := HGG.out k e; have := K5.out.size; simp at h; omega)
      rw [hll] at h9
      have g8 := HG5.out.kept K8.out (fun e => SO.out.ne_blk HG5.out (by decide) e rfl)
      have r8 := HR5.out.kept K8.out (fun e => SO.out.ne_blk HR5.out (by decide) e rfl)
      have k9 := keepsOne w8 b 1 (.slice A8 (m + 1) c8)
      have b8 := H5.out.blk.kept K8.out (fun e => SO.out.ne_blk H5.out.blk (by decide) e rfl)
      have g9 := g8.kept k9 (fun e => g8.ne b8 (by decide) e)
      have r9 := r8.kept k9 (fun e => r8.ne b8 (by decide) e)
      have K9 := ((K5.out.step K8.out (fun k hk e => HRSs.out k e)).step k9 (fun k hk e => e ▸ HRSb.out))
      obtain ⟨w9, hw9⟩ : ∃ w9, w9 = w8.setCell ⟨b, 1, none⟩ (.slice A8 (m + 1) c8) := ⟨_, rfl⟩
      rw [← hw9] at h9 g9 r9 K9 ⊢
      have H9 := hide h9
      have HK9 := hide K9
      obtain ⟨⟨p0, p1, p2⟩, _, hgl9⟩ := g9.three
      obtain ⟨⟨q0, q1, q2⟩, ⟨fq0, fq1, fq2⟩, hql⟩ := r9.three
      obtain ⟨hs6, ks6⟩ := set_h r9 (.int .i64 (i : Int)) (.int .i64 (nx : Int)) (.int .i64 1)
      have S3 := hide (h9.kept ks6 (fun k e => .inr ⟨_, _, e ▸ r9, by decide, by decide, by decide, by decide, by decide⟩))
      have K6 := hide (K9.step ks6 (fun k hk e => by omega))
      have HS6 := hide hs6
      clear hs6 ks6 h9 g8 r8 k9 b8 K9 hw9 ho8 hll d81 f81 hbl8 g9 r9
      go_wp2_with fail
      obtain ⟨w6, hw6⟩ : ∃ w6, w6 = ((w9.setCell ⟨gr, 0, none⟩ (.int .i64 (i : Int))).setCell ⟨gr, 1, none⟩ (.int .i64 (nx : Int))).setCell ⟨gr, 2, none⟩ (.int .i64 1) := ⟨_, rfl⟩
      rw [← hw6] at HS6 S3 K6 ⊢
      obtain ⟨⟨r0, r1, r2⟩, _⟩ := HS6.out.three
      clear hw6
      refine bodyPost_ret (v := .tuple #[.agg #[.int .i64 (i : Int), .int .i64 (nx : Int), .int .i64 1], .int .i64 0]) (by simp [results, Try.results29, go_sem, r0, r1, r2]) rfl ?_
      rw [← HNX1.out]
      exact ⟨rfl, ⟨_, _, _, _, _, _, _, S3.out⟩, K6.out⟩
end Go.Proofs.Ytidobhflijdccaa
