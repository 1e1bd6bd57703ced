


/-
  The reference's arena: Alloc of a slot that was freed. No conditions beyond those of the statement.
-/
import Derived.Test.YtidobhflijdccaaJh
import Derived.Test.YtidobhflijdccaaHn
set_option linter.unusedVariables false
set_option linter.unusedSimpArgs false
namespace Go.Proofs.Ytidobhflijdccaa
open Go.RowKit Cfp
set_option maxRecDepth 100000 in
set_option maxHeartbeats 2000000 in
theorem ralloc_again (w : World) (G : Nat → Prop) (b : Nat) (ρ : RA) (LA : Option Addr) (lc : Nat) (SA : Option Addr) (sc : Nat) (FA : Option Addr) (fc q : Nat) (size : Int) (i p j : Nat) (x : RSl) (h : RAm w G b ρ LA lc SA sc FA fc q) (hn8 : ρ.sh.length ≤ 8) (hm : ρ.slots.length ≤ 1000000) (hfm : ρ.free.length ≤ 1000000) (hG : ∀ k, G k → k < w.heap.size) (h1s : 1 ≤ size) (hfit : fitP ρ.sh size = i) (hil : i < ρ.sh.length)
    (hfb : ∀ j ∈ ρ.free, j < ρ.slots.length) (hno : ∀ p' j, p + 1 ≤ p' → ρ.free[p']? = some j → fk ρ.slots i j = none) (hp : ρ.free[p]? = some j) (hx : ρ.slots[j]? = some x) (hxc : x.c = i) (hage : 0 ≤ x.age ∧ x.age < 4611686018427387904) :
    Calls Try.prog 29 #[.pointer (some ⟨b, 0, none⟩), .int .i64 size] w fun e w' => e = .returned (.tuple #[.agg #[.int .i64 (i : Int), .int .i64 (x.k : Int), .int .i64 (x.age + 1)], .int .i64 0]) ∧
      IsRA w' G b { ρ with slots := ρ.slots.set j { x with age := x.age + 1, used := true, D := none, dc := 0, b := [] }, free := ρ.free.take p ++ ρ.free.drop (p + 1) } ∧ Keeps (RS G w) w w' := by
  have HP := hide hp
  have HX := hide hx
  have HXC := hide hxc
  have HRSb := hide (RS.arena h)
  have HRSs : Hid (∀ k, inB SA k → RS G w k) := hide (fun k hk => RS.slots h hk)
  have hpl : p < ρ.free.length := (List.getElem?_eq_some_iff.1 hp).1
  have hjl0 : j < ρ.slots.length := (List.getElem?_eq_some_iff.1 hx).1
  clear hp hx hxc
  have HI : Hid (fitI ρ.sh size = (i : Int)) := hide (by unfold fitI; rw [if_pos ⟨h1s, by omega⟩, hfit])
  have HE : Hid (fitE ρ.sh size = 0) := hide (by unfold fitE; rw [if_pos ⟨h1s, by omega⟩])
  obtain ⟨w1, hw1⟩ : ∃ w1, w1 = w.alloc (.cells #[.int .i64 0, .int .i64 0, .int .i64 0] 40) := ⟨_, rfl⟩
  obtain ⟨gr, hgr⟩ : ∃ gr, gr = w.heap.size := ⟨_, rfl⟩
  have k1 : Keeps (fun _ => False) w w1 := by rw [hw1]; exact (Keeps.refl _ _).alloc _
  have hr1 : Blk w1 gr 40 #[.int .i64 0, .int .i64 0, .int .i64 0] := by rw [hw1, hgr]; exact Blk.new _ _ _
  have h1 := h.quiet k1
  obtain ⟨nl, hnl⟩ : ∃ nl, nl = ρ.sh.length := ⟨_, rfl⟩
  rw [← hnl] at hn8
  have d0 := h1.blk.cell 0
  rw [← hnl] at d0
  have hbl := h1.blk.lt
  have HRL := hide (show Rd w1 w1.heap.size LA 2 nl (prs ρ.sh) from by rw [hnl]; exact h1.ls.rd (by omega))
  have H1 := hide h1
  have HR1 := hide hr1
  have HG := hide hgr
  have hgr' : w.heap.size ≤ gr := by omega
  have HW := hide hw1
  have K1 := hide k1
  have HNL := hide hnl
  have HFB := hide hfb
  have HNo := hide hno
  have HFit := hide hfit
  have hil' : i < nl := by omega
  obtain ⟨f, hff⟩ : ∃ f, f = ρ.free.length := ⟨_, rfl⟩
  obtain ⟨m, hmm⟩ : ∃ m, m = ρ.slots.length := ⟨_, rfl⟩
  rw [← hff] at hfm
  have HF := hide hff
  have HM := hide hmm
  have HGG := hide hG
  have hiI : (i : Int) < (nl : Int) := by omega
  have hi0 : (0 : Int) ≤ (i : Int) := by omega
  clear h hw1 hgr k1 hr1 h1 hnl hfb hno hfit hff hmm hG hil
  go_enter Try.func29, Try.ntmps29
  go_upto_region 1 with fail
  rw [← HG.out, ← HW.out]
  go_wp2_with fail
  refine (rfit_any ρ.sh LA nl lc _ size w1 HRL.out (Nat.le_refl _) hn8).mono ?_
  rintro e w2 ⟨rfl, k2⟩
  rw [HI.out, HE.out]
  have h2 := H1.out.quiet k2
  have r2 := HR1.out.kept k2 (fun h => h)
  have d2 := h2.blk.cell 2
  rw [← HF.out] at d2
  have d1 := h2.blk.cell 1
  rw [← HM.out] at d1
  have hbl2 := h2.blk.lt
  have H2 := hide h2
  have HR2 := hide r2
  have K2 := hide (K1.out.trans k2)
  have hz2 := k2.size
  clear k2 r2 h2 d0 hbl H1 HR1 HRL HW
  go_upto_region 5 with fail
  go_loopw [8] (fun iv wr => ∃ (P kd : Nat) (z : Int), z = (P : Int) - 1 ∧ (p + 1) ≤ P ∧ P ≤ f ∧ iv = .int .i64 z ∧ wr = w2.drewN kd) (fun iv _ => ((intOf iv) + 1).toNat)
  case atStart => exact ⟨f, 0, _, rfl, by have := HF.out; omega, Nat.le_refl _, rfl, rfl⟩
  case round =>
    obtain ⟨P, kd, z, hz, hP1, hP2, rfl, rfl⟩ := hrel
    by_cases hP : p + 2 ≤ P
    ·
      obtain ⟨p', rfl⟩ : ∃ p', P = p' + 1 := ⟨P - 1, by omega⟩
      obtain rfl : z = (p' : Int) := by omega
      clear hz
      have hfo := H2.out.fr
      rw [← HF.out] at hfo
      obtain ⟨gf, rfl, _⟩ := Own.some_ hfo (by omega)
      obtain ⟨j', hj'⟩ : ∃ j', ρ.free[p']? = some j' := ⟨ρ.free[p']'(by have := HF.out; omega), List.getElem?_eq_getElem _⟩
      have hjl := HFB.out j' (List.mem_of_getElem? hj')
      obtain ⟨x', hx'⟩ : ∃ x', ρ.slots[j']? = some x' := ⟨ρ.slots[j']'hjl, List.getElem?_eq_getElem _⟩
      have hne := fk_no (HNo.out p' j' (by omega) hj') hx'
      have hso := H2.out.sl
      rw [← HM.out] at hso hjl
      obtain ⟨gs, rfl, _⟩ := Own.some_ hso (by omega)
      have cj : w2.cell? ⟨gf, p', none⟩ = some (.int .i64 (j' : Int)) := (hfo.cell p' (by omega)).trans (intCs_at hj')
      obtain ⟨c0, _⟩ := rsl_at hso hx'
      have e3 : ((x'.c : Int) == (i : Int)) = false := by simp; omega
      have e4 : (x'.c == i) = false := by simpa using hne
      have hpI : (p' : Int) < (f : Int) := by omega
      have hp0 : (0 : Int) ≤ (p' : Int) := by omega
      have hjI : (j' : Int) < (m : Int) := by omega
      have hj0 : (0 : Int) ≤ (j' : Int) := by omega
      have hgf := (hfo.inB ((inB_some _ _ _).2 rfl)).2
      have hgs := (hso.inB ((inB_some _ _ _).2 rfl)).2
      clear hj' hx' hne hfo hso
      go_upto_region 7 with fail
      go_quiet (fail)
      go_wp2_with fail
      go_roundw
      case rel => exact ⟨p', kd + nq, _, rfl, by omega, by omega, rfl, by first | rfl | simp [World.drewN, Nat.add_assoc]⟩
      case measure => simp [intOf] <;> omega
    · obtain rfl : P = p + 1 := by omega
      obtain rfl : z = (p : Int) := by omega
      clear hz hP hP1 hP2
      have hpf : p < f := by rw [HF.out]; exact hpl
      have hfo2 := H2.out.fr
      rw [← HF.out] at hfo2
      obtain ⟨gf, rfl, _⟩ := Own.some_ hfo2 (by omega)
      have hso2 := H2.out.sl
      rw [← HM.out] at hso2 hjl0
      obtain ⟨gs, rfl, _⟩ := Own.some_ hso2 (by omega)
      have cj : w2.cell? ⟨gf, p, none⟩ = some (.int .i64 (j : Int)) := (hfo2.cell p (by omega)).trans (intCs_at HP.out)
      obtain ⟨c0, _⟩ := rsl_at hso2 HX.out
      rw [HXC.out] at c0
      have hpI : (p : Int) < (f : Int) := by omega
      have hp0 : (0 : Int) ≤ (p : Int) := by omega
      have hjI : (j : Int) < (m : Int) := by omega
      have hj0 : (0 : Int) ≤ (j : Int) := by omega
      have hgf := (hfo2.inB ((inB_some _ _ _).2 rfl)).2
      have hgs := (hso2.inB ((inB_some _ _ _).2 rfl)).2
      clear hfo2 hso2
      go_upto_region 7 with fail
      go_quiet (fail)
      go_upto_region 9 with fail
      obtain ⟨w3, hw3⟩ : ∃ w3 : World, w3 = (w2.drewN kd).drewN nq := ⟨_, rfl⟩
      first | rw [← hw3] | (rw [World.drewN_drewN] at hw3; rw [← hw3])
      have k3 : Keeps (fun _ => False) w2 w3 := by rw [hw3]; first | exact ((Keeps.refl _ _).drewN _).drewN _ | exact (Keeps.refl _ _).drewN _
      have h3 := H2.out.quiet k3
      have r3 := HR2.out.kept k3 (fun h => h)
      have K3 := hide (K2.out.trans k3)
      have hz3 := k3.size
      clear hw3 k3 d1 d2 hbl2 cj c0 hgf hgs
      have hfo := h3.fr
      rw [← HF.out] at hfo
      have hso := h3.sl
      rw [← HM.out] at hso
      have d2 := h3.blk.cell 2
      rw [← HF.out] at d2
      have hbl3 := h3.blk.lt
      have hgf := (hfo.inB ((inB_some _ _ _).2 rfl)).2
      have hgs := (hso.inB ((inB_some _ _ _).2 rfl)).2
      have hfc := hfo.le
      obtain ⟨n2, hn2⟩ : ∃ n2, f = p + 1 + n2 := ⟨f - (p + 1), by omega⟩
      obtain ⟨Da, hsa, hra, _⟩ := sub_hi elemInt (some ⟨gf, 0, none⟩) f fc .i64 (p : Int) (by omega) (by omega) hfc
      obtain ⟨Db, hsb, hrb, _⟩ := sub_lo elemInt (some ⟨gf, 0, none⟩) f fc .i64 ((p : Int) + 1) (by omega) (by omega) hfc
      rw [show ((p : Nat) : Int).toNat = p from by omega] at hsa hra
      rw [show ((p : Int) + 1).toNat = p + 1 from by omega, show f - (p + 1) = n2 from by omega] at hsb hrb
      have hint : ∀ k, (intCs ρ.free).take k = intCs (ρ.free.take k) := fun k => by unfold intCs; rw [List.map_take]
      have hint2 : ∀ k, (intCs ρ.free).drop k = intCs (ρ.free.drop k) := fun k => by unfold intCs; rw [List.map_drop]
      have RA := hide (hra _ _ _ (hfo.rd (by omega)))
      have RB := hide (hrb _ _ _ (hfo.rd (by omega)))
      rw [Nat.mul_one, hint] at RA
      rw [Nat.mul_one, hint2] at RB
      have wp1 : IntKind.i64.wrap ((p : Int) + 1) = (p : Int) + 1 := IntWalk.i64_in _ (by omega)
      have wag : IntKind.i64.wrap (x.age + 1) = x.age + 1 := IntWalk.i64_in _ (by omega)
      have HN2 := hide hn2
      have H3 := hide h3
      have HR3 := hide r3
      have hbn : p + n2 ≤ 1000000 := by omega
      clear hra hrb hint hint2 hfo hso h3 r3 hn2
      have HSg : Hid (∀ W, Keeps (fun _ => False) w3 W → (Keeps (fun _ => False) w3 W ∧ W.cell? ⟨b, 2, none⟩ = some (.slice (some ⟨gf, 0, none⟩) f fc))) := hide (fun W kW => ⟨kW, kW.cell_some d2 (fun h => h)⟩)
      refine wp_region_N 19 (S := fun W => Keeps (fun _ => False) w3 W ∧ W.cell? ⟨b, 2, none⟩ = some (.slice (some ⟨gf, 0, none⟩) f fc)) (by kernel_rfl) (HSg.out _ ((Keeps.refl _ _).drew)) (fun hHeld => ?_)
      refine wpAnyN_take (i := 0) (v := ?_) rfl (by kernel_rfl) (by kernel_rfl) (by kernel_rfl) (by kernel_rfl) (by kernel_rfl) (by kernel_rfl) (fun _ _ _ h => h) (Or.inl ⟨by first | kernel_rfl | rfl, ?_⟩) (by assumption) ?_; rotate_left; focus (intro w hSw; (try dsimp only at hSw); go_simp; try (with_reducible rfl)); (try simp only [Act.put, List.getElem_toArray, List.getElem_cons_succ, List.getElem_cons_zero, List.setIfInBounds_toArray, List.set_cons_zero, List.set_cons_succ])
      refine wpAnyN_take (i := 2) (v := ?_) rfl (by kernel_rfl) (by kernel_rfl) (by kernel_rfl) (by kernel_rfl) (by kernel_rfl) (by kernel_rfl) (fun _ _ _ h => h) (Or.inl ⟨by first | kernel_rfl | rfl, ?_⟩) (by assumption) ?_; rotate_left; focus (intro w hSw; (try dsimp only at hSw); go_simp; try (with_reducible rfl)); (try simp only [Act.put, List.getElem_toArray, List.getElem_cons_succ, List.getElem_cons_zero, List.setIfInBounds_toArray, List.set_cons_zero, List.set_cons_succ])
      refine wpAnyN_take (i := 3) (v := ?_) rfl (by kernel_rfl) (by kernel_rfl) (by kernel_rfl) (by kernel_rfl) (by kernel_rfl) (by kernel_rfl) (fun _ _ _ h => h) (Or.inl ⟨by first | kernel_rfl | rfl, ?_⟩) (by assumption) ?_; rotate_left; focus (intro w hSw; (try dsimp only at hSw); go_simp; try (with_reducible rfl)); (try simp only [Act.put, List.getElem_toArray, List.getElem_cons_succ, List.getElem_cons_zero, List.setIfInBounds_toArray, List.set_cons_zero, List.set_cons_succ])
      refine wpAnyN_take (i := 4) (v := ?_) rfl (by kernel_rfl) (by kernel_rfl) (by kernel_rfl) (by kernel_rfl) (by kernel_rfl) (by kernel_rfl) (fun _ _ _ h => h) (Or.inl ⟨by first | kernel_rfl | rfl, ?_⟩) (by assumption) ?_; rotate_left; focus (intro w hSw; (try dsimp only at hSw); go_simp; try (with_reducible rfl)); (try simp only [Act.put, List.getElem_toArray, List.getElem_cons_succ, List.getElem_cons_zero, List.setIfInBounds_toArray, List.set_cons_zero, List.set_cons_succ])
      refine wpAnyN_take (i := 5) (v := ?_) rfl (by kernel_rfl) (by kernel_rfl) (by kernel_rfl) (by kernel_rfl) (by kernel_rfl) (by kernel_rfl) (fun _ _ _ h => h) (Or.inl ⟨by first | kernel_rfl | rfl, ?_⟩) (by assumption) ?_; rotate_left; focus (intro w hSw; (try dsimp only at hSw); go_simp; try (with_reducible rfl)); (try simp only [Act.put, List.getElem_toArray, List.getElem_cons_succ, List.getElem_cons_zero, List.setIfInBounds_toArray, List.set_cons_zero, List.set_cons_succ])
      refine wpAnyN_take (i := 6) (v := ?_) rfl (by kernel_rfl) (by kernel_rfl) (by kernel_rfl) (by kernel_rfl) (by kernel_rfl) (by kernel_rfl) (fun _ _ _ h => h) (Or.inl ⟨by first | kernel_rfl | rfl, ?_⟩) (by assumption) ?_; rotate_left; focus (intro w hSw; (try dsimp only at hSw); go_simp; try (with_reducible rfl)); (try simp only [Act.put, List.getElem_toArray, List.getElem_cons_succ, List.getElem_cons_zero, List.setIfInBounds_toArray, List.set_cons_zero, List.set_cons_succ])
      refine wpAnyN_take (i := 7) (v := ?_) rfl (by kernel_rfl) (by kernel_rfl) (by kernel_rfl) (by kernel_rfl) (by kernel_rfl) (by kernel_rfl) (fun _ _ _ h => h) (Or.inl ⟨by first | kernel_rfl | rfl, ?_⟩) (by assumption) ?_; rotate_left; focus (intro w hSw; (try dsimp only at hSw); go_simp; try (with_reducible rfl)); (try simp only [Act.put, List.getElem_toArray, List.getElem_cons_succ, List.getElem_cons_zero, List.setIfInBounds_toArray, List.set_cons_zero, List.set_cons_succ])
      refine wpAnyN_take (i := 9) (v := ?_) rfl (by kernel_rfl) (by kernel_rfl) (by kernel_rfl) (by kernel_rfl) (by kernel_rfl) (by kernel_rfl) (fun _ _ _ h => h) (Or.inl ⟨by first | kernel_rfl | rfl, ?_⟩) (by assumption) ?_; rotate_left; focus (intro w hSw; (try dsimp only at hSw); go_simp; try (with_reducible rfl)); (try simp only [Act.put, List.getElem_toArray, List.getElem_cons_succ, List.getElem_cons_zero, List.setIfInBounds_toArray, List.set_cons_zero, List.set_cons_succ])
      refine wpAnyN_take (i := 10) (v := ?_) rfl (by kernel_rfl) (by kernel_rfl) (by kernel_rfl) (by kernel_rfl) (by kernel_rfl) (by kernel_rfl) (fun _ _ _ h => h) (Or.inl ⟨by first | kernel_rfl | rfl, ?_⟩) (by assumption) ?_; rotate_left; focus (intro w hSw; (try dsimp only at hSw); go_simp; try (with_reducible rfl)); (try simp only [Act.put, List.getElem_toArray, List.getElem_cons_succ, List.getElem_cons_zero, List.setIfInBounds_toArray, List.set_cons_zero, List.set_cons_succ])
      refine wpAnyN_take (i := 11) (v := ?_) rfl (by kernel_rfl) (by kernel_rfl) (by kernel_rfl) (by kernel_rfl) (by kernel_rfl) (by kernel_rfl) (fun _ _ _ h => h) (Or.inl ⟨by first | kernel_rfl | rfl, ?_⟩) (by assumption) ?_; rotate_left; focus (intro w hSw; (try dsimp only at hSw); go_simp; try (with_reducible rfl)); (try simp only [Act.put, List.getElem_toArray, List.getElem_cons_succ, List.getElem_cons_zero, List.setIfInBounds_toArray, List.set_cons_zero, List.set_cons_succ])
      refine wpAnyN_take (i := 12) (v := ?_) rfl (by kernel_rfl) (by kernel_rfl) (by kernel_rfl) (by kernel_rfl) (by kernel_rfl) (by kernel_rfl) (fun _ _ _ h => h) (Or.inl ⟨by first | kernel_rfl | rfl, ?_⟩) (by assumption) ?_; rotate_left; focus (intro w hSw; (try dsimp only at hSw); go_simp; try (with_reducible rfl)); (try simp only [Act.put, List.getElem_toArray, List.getElem_cons_succ, List.getElem_cons_zero, List.setIfInBounds_toArray, List.set_cons_zero, List.set_cons_succ])
      refine wpAnyN_take (i := 13) (v := ?_) rfl (by kernel_rfl) (by kernel_rfl) (by kernel_rfl) (by kernel_rfl) (by kernel_rfl) (by kernel_rfl) (fun _ _ _ h => h) (Or.inl ⟨by first | kernel_rfl | rfl, ?_⟩) (by assumption) ?_; rotate_left; focus (intro w hSw; (try dsimp only at hSw); go_simp; try (with_reducible rfl)); (try simp only [Act.put, List.getElem_toArray, List.getElem_cons_succ, List.getElem_cons_zero, List.setIfInBounds_toArray, List.set_cons_zero, List.set_cons_succ])
      refine wpAnyN_take (i := 14) (v := ?_) rfl (by kernel_rfl) (by kernel_rfl) (by kernel_rfl) (by kernel_rfl) (by kernel_rfl) (by kernel_rfl) (fun _ _ _ h => h) (Or.inl ⟨by first | kernel_rfl | rfl, ?_⟩) (by assumption) ?_; rotate_left; focus (intro w hSw; (try dsimp only at hSw); go_simp; try (with_reducible rfl)); (try simp only [Act.put, List.getElem_toArray, List.getElem_cons_succ, List.getElem_cons_zero, List.setIfInBounds_toArray, List.set_cons_zero, List.set_cons_succ])
      refine wpAnyN_take (i := 15) (v := ?_) rfl (by kernel_rfl) (by kernel_rfl) (by kernel_rfl) (by kernel_rfl) (by kernel_rfl) (by kernel_rfl) (fun _ _ _ h => h) (Or.inl ⟨by first | kernel_rfl | rfl, ?_⟩) (by assumption) ?_; rotate_left; focus (intro w hSw; (try dsimp only at hSw); go_simp; try (with_reducible rfl)); (try simp only [Act.put, List.getElem_toArray, List.getElem_cons_succ, List.getElem_cons_zero, List.setIfInBounds_toArray, List.set_cons_zero, List.set_cons_succ])
      refine wpAnyN_one (i := 1) (by kernel_rfl) rfl (fun K hK => ?_)
      go_simp
      have k4 := ((Keeps.refl (fun _ => False) w3).drew).alloc (.cells #[] 3)
      refine hK.out _ _ (HSg.out _ k4) (fun _ => ?_)
      clear hK K
      (try simp only [Act.put, List.getElem_toArray, List.getElem_cons_succ, List.getElem_cons_zero, List.setIfInBounds_toArray, List.set_cons_zero, List.set_cons_succ])
      refine wpAnyN_one (i := 8) (by kernel_rfl) rfl (fun K hK => ?_)
      refine step_app _ elemInt (by rfl) (.tmp 54) (.tmp 60) (by rfl) w3.heap.size (A := some ⟨w3.heap.size, 0, none⟩) (n := 0) (c := 0) [] (by simp [Act.eval, Act.put]) (Own.new0 _ _ 3 1 _ (by simp) (by simp)) _ (A2 := Da) (m := p) (c2 := fc) (intCs (ρ.free.take p)) (by simp [Act.eval, Act.put]) (RA.out.kept k4 (fun _ _ h => h)) (intCs_one _) (by simp only [maxLen]; omega) (by omega) (by simp) ?_
      intro A7 c7 w7 o7 k7 hA7
      rw [Nat.zero_add, List.nil_append] at o7
      have O7 := hide o7
      have K7 := hide (k4.step k7 (fun p hp h => by have := (inB_some _ _ _).1 h; (try simp at this); omega))
      clear o7 k7 hA7 k4
      refine hK.out _ _ (HSg.out _ K7.out) (fun _ => ?_)
      clear hK K
      (try simp only [Act.put, List.getElem_toArray, List.getElem_cons_succ, List.getElem_cons_zero, List.setIfInBounds_toArray, List.set_cons_zero, List.set_cons_succ])
      refine wpAnyN_one (i := 16) (by kernel_rfl) rfl (fun K hK => ?_)
      refine step_app _ elemInt (by rfl) (.tmp 61) (.tmp 68) (by rfl) w3.heap.size (A := A7) (n := p) (c := c7) (intCs (ρ.free.take p)) (by simp [Act.eval, Act.put]) O7.out _ (A2 := Db) (m := n2) (c2 := fc - (p + 1)) (intCs (ρ.free.drop (p + 1))) (by simp [Act.eval, Act.put]) (RB.out.kept K7.out (fun _ _ h => h)) (intCs_one _) (by simp only [maxLen]; omega) (by omega) (K7.out.size) ?_
      intro A8 c8 w8 o8 k8 hA8
      have O8 := hide o8
      have K8 := hide (K7.out.step k8 (fun p hp h => by have := O7.out.inB h; omega))
      have b8 := H3.out.blk.kept K8.out (fun h => h)
      have d82 := b8.cell 2
      rw [← HF.out] at d82
      have g82 := b8.frozen 2
      have hbl8 := b8.lt
      clear o8 k8 hA8 b8
      refine hK.out _ _ (HSg.out _ K8.out) (fun _ => ?_)
      clear hK K
      (try simp only [Act.put, List.getElem_toArray, List.getElem_cons_succ, List.getElem_cons_zero, List.setIfInBounds_toArray, List.set_cons_zero, List.set_cons_succ])
      refine wpAnyN_take (i := 17) (v := ?_) rfl (by kernel_rfl) (by kernel_rfl) (by kernel_rfl) (by kernel_rfl) (by kernel_rfl) (by kernel_rfl) (fun _ _ _ h => h) (Or.inl ⟨by first | kernel_rfl | rfl, ?_⟩) (by assumption) ?_; rotate_left; focus (intro w hSw; (try dsimp only at hSw); go_simp; try (with_reducible rfl)); (try simp only [Act.put, List.getElem_toArray, List.getElem_cons_succ, List.getElem_cons_zero, List.setIfInBounds_toArray, List.set_cons_zero, List.set_cons_succ])
      refine wpAnyN_take (i := 18) (v := ?_) rfl (by kernel_rfl) (by kernel_rfl) (by kernel_rfl) (by kernel_rfl) (by kernel_rfl) (by kernel_rfl) (fun _ _ _ h => h) (Or.inl ⟨by first | kernel_rfl | rfl, ?_⟩) (by assumption) ?_; rotate_left; focus (intro w hSw; (try dsimp only at hSw); go_simp; try (with_reducible rfl)); (try simp only [Act.put, List.getElem_toArray, List.getElem_cons_succ, List.getElem_cons_zero, List.setIfInBounds_toArray, List.set_cons_zero, List.set_cons_succ])
      refine wpAnyN_last (by kernel_rfl) rfl (fun K hK => ?_)
      go_simp
      refine hK.out _ _ ?_
      clear hK K hHeld
      (try simp only [Act.put, List.getElem_toArray, List.getElem_cons_succ, List.getElem_cons_zero, List.setIfInBounds_toArray, List.set_cons_zero, List.set_cons_succ])
      refine wpAnyN_done (by kernel_rfl) ?_ _
      (try simp only [Act.put, List.getElem_toArray, List.getElem_cons_succ, List.getElem_cons_zero, List.setIfInBounds_toArray, List.set_cons_zero, List.set_cons_succ])
      have hll : (ρ.free.take p ++ ρ.free.drop (p + 1)).length = p + n2 := by rw [List.length_append, List.length_take, List.length_drop]; have := HF.out; have := HN2.out; omega
      have ho9 : Own w8 0 3 1 A8 (ρ.free.take p ++ ρ.free.drop (p + 1)).length c8 (intCs (ρ.free.take p ++ ρ.free.drop (p + 1))) := by
        rw [hll]
        have := O8.out.base_le (b := 0) (by omega)
        rw [show intCs (ρ.free.take p ++ ρ.free.drop (p + 1)) = intCs (ρ.free.take p) ++ intCs (ρ.free.drop (p + 1)) from by unfold intCs; rw [List.map_append]]
        exact this
      have hA8 : ∀ k, inB A8 k → w3.heap.size ≤ k := fun k hk => (O8.out.inB hk).1
      have h9 := H3.out.newFree (K8.out.weak (fun _ _ h => h.elim)) (ρ.free.take p ++ ρ.free.drop (p + 1)) ho9 (fun e => by have := hA8 _ e; have := H3.out.nx.lt; omega) (fun k hk e => by have := hA8 _ hk; have := HGG.out k e; have := K3.out.size; omega)
      rw [hll] at h9
      have k9 : Keeps (RS G w) w (w8.setCell ⟨b, 2, none⟩ (.slice A8 (p + n2) c8)) := ((K3.out.trans K8.out).weak (S' := RS G w) (fun _ _ h => h.elim)).step (keepsOne w8 b 2 _) (fun k hk e => e ▸ HRSb.out)
      obtain ⟨w9, hw9⟩ : ∃ w9, w9 = w8.setCell ⟨b, 2, none⟩ (.slice A8 (p + n2) c8) := ⟨_, rfl⟩
      rw [← hw9] at h9 k9 ⊢
      have k89 : Keeps (· = b) w8 w9 := by rw [hw9]; exact keepsOne _ _ _ _
      have r9 := (HR3.out.kept K8.out (fun h => h)).kept k89 (fun e => HR3.out.ne H3.out.blk (by decide) e)
      have hx9 := rsl_at h9.sl HX.out
      obtain ⟨c0, c1, c2, c3, c4⟩ := hx9
      rw [HXC.out] at c0
      have hgs9 := (h9.sl.inB ((inB_some _ _ _).2 rfl)).2
      have f2 := h9.sl.frozen (j * 5 + 2)
      have f3 := h9.sl.frozen (j * 5 + 3)
      have f4 := h9.sl.frozen (j * 5 + 4)
      obtain ⟨⟨q0, q1, q2⟩, ⟨fq0, fq1, fq2⟩, hql⟩ := r9.three
      have hxm := List.mem_of_getElem? HX.out
      have hjl2 := (List.getElem?_eq_some_iff.1 HX.out).1
      have s1 := h9.setSlot (y := { x with age := x.age + 1 }) (v := .int .i64 (x.age + 1)) (k := 2) HX.out (by omega) rfl (h9.da x hxm) (h9.gd x hxm)
      have kk1 := keepsOne w9 gs (j * 5 + 2) (.int .i64 (x.age + 1))
      have s2 := s1.setSlot (x := { x with age := x.age + 1 }) (y := { x with age := x.age + 1, used := true }) (v := .bool true) (k := 3) (List.getElem?_set_self hjl2) (by omega) rfl (s1.da { x with age := x.age + 1 } (List.mem_iff_getElem?.2 ⟨j, by simp [hjl2]⟩)) (s1.gd { x with age := x.age + 1 } (List.mem_iff_getElem?.2 ⟨j, by simp [hjl2]⟩))
      have kk2 := kk1.trans (keepsOne _ gs (j * 5 + 3) (.bool true))
      have s3 := s2.setSlot (x := { x with age := x.age + 1, used := true }) (y := { x with age := x.age + 1, used := true, D := none, dc := 0, b := [] }) (v := .slice none 0 0) (k := 4) (List.getElem?_set_self (by simp only [List.length_set]; exact hjl2)) (by omega) rfl (Own.nil _ _ _ _) (fun k hk => absurd hk (inB_none k))
      have kk3 := kk2.trans (keepsOne _ gs (j * 5 + 4) (.slice none 0 0))
      simp only [List.set_set] at s3
      have r10 := r9.kept kk3 (fun e => h9.sl.ne_blk r9 (by decide) ((inB_some _ _ _).2 rfl) e.symm)
      obtain ⟨w10, hw10⟩ : ∃ w10, w10 = (((w9.setCell ⟨gs, j * 5 + 2, none⟩ (.int .i64 (x.age + 1))).setCell ⟨gs, j * 5 + 3, none⟩ (.bool true)).setCell ⟨gs, j * 5 + 4, none⟩ (.slice none 0 0)) := ⟨_, rfl⟩
      rw [← hw10] at s3 r10 kk3
      have S10 := hide s3
      have R10 := hide r10
      have K10 := hide (k9.step kk3 (fun k hk e => e ▸ HRSs.out gs ((inB_some _ _ _).2 rfl)))
      have HW10 := hide hw10
      clear s1 s2 s3 kk1 kk2 kk3 r10 hw10 hxm h9 k9 k89 r9 hw9 hA8 ho9 hll d82 g82 hbl8 q0 q1 q2 fq0 fq1 fq2 hql
      go_upto_region 12 with fail
      rw [← HW10.out]
      clear c0 c1 c2 c3 c4 f2 f3 f4
      obtain ⟨c0, c1, c2, _, _⟩ := rsl_at (x := { x with age := x.age + 1, used := true, D := none, dc := 0, b := [] }) S10.out.sl (List.getElem?_set_self hjl2)
      dsimp only at c0 c1 c2
      rw [HXC.out] at c0
      have hgs10 := (S10.out.sl.inB ((inB_some _ _ _).2 rfl)).2
      obtain ⟨⟨q0, q1, q2⟩, ⟨fq0, fq1, fq2⟩, hql⟩ := R10.out.three
      obtain ⟨hs6, ks6⟩ := set_h R10.out (.int .i64 (i : Int)) (.int .i64 (x.k : Int)) (.int .i64 (x.age + 1))
      have S3 := hide (S10.out.kept ks6 (fun k e => .inr ⟨_, _, e ▸ R10.out, by decide, by decide, by decide, by decide, by decide⟩))
      have K6 := hide (K10.out.step ks6 (fun k hk e => by omega))
      have HS6 := hide hs6
      clear hs6 ks6 hgs9 wag
      go_wp2_with fail
      obtain ⟨w6, hw6⟩ : ∃ w6, w6 = ((w10.setCell ⟨gr, 0, none⟩ (.int .i64 (i : Int))).setCell ⟨gr, 1, none⟩ (.int .i64 (x.k : Int))).setCell ⟨gr, 2, none⟩ (.int .i64 (x.age + 1)) := ⟨_, rfl⟩
      rw [← hw6] at HS6 S3 K6 ⊢
      obtain ⟨⟨r0, r1, r2⟩, _⟩ := HS6.out.three
      clear hw6
      refine bodyPost_ret (v := .tuple #[.agg #[.int .i64 (i : Int), .int .i64 (x.k : Int), .int .i64 (x.age + 1)], .int .i64 0]) (by simp [results, Try.results29, go_sem, r0, r1, r2]) rfl ?_
      exact ⟨rfl, ⟨_, _, _, _, _, _, _, S3.out⟩, K6.out⟩
end Go.Proofs.Ytidobhflijdccaa
