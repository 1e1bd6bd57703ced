

/-
  The reference's arena: Usage. No conditions beyond those of the statement.
-/
import Derived.Test.YtidobhflijdccaaJf
import Derived.Test.YtidobhflijdccaaJg
import Derived.Test.YtidobhflijdccaaHn
import Derived.Deep.CutRange
set_option linter.unusedVariables false
set_option linter.unusedSimpArgs false
namespace Go.Proofs.Ytidobhflijdccaa
open Go.RowKit Cfp
theorem set_h3 {w : World} {g : Nat} {t : TypeId} {a b c : Value} (h : Blk w g t #[a, b, c]) (x y z : Value) :
    Blk (((w.setCell ⟨g, 0, none⟩ x).setCell ⟨g, 1, none⟩ y).setCell ⟨g, 2, none⟩ z) g t #[x, y, z] ∧ Keeps (· = g) w (((w.setCell ⟨g, 0, none⟩ x).setCell ⟨g, 1, none⟩ y).setCell ⟨g, 2, none⟩ z) := ⟨h.set3 x y z, keeps3 w g x y z⟩
theorem own_blk {w : World} {g n : Nat} {e : TypeId} {xs : List Value} (h : Blk w g e xs.toArray) (hl : xs.length = n) (hm : n ≤ maxLen) (B : Nat) (hB : B ≤ g) : Own w B e 1 (some ⟨g, 0, none⟩) n n xs :=
  ⟨by rw [hl, Nat.mul_one], .inr ⟨g, n, xs.toArray, rfl, hB, h, Nat.le_refl _, hm, by simp [hl], by rw [List.toList_toArray, List.take_of_length_le (by rw [hl, Nat.mul_one]; exact Nat.le_refl _)]⟩⟩
/-- the live slots of the first n classes -/
def livR (n : Nat) (l : List RSl) : List Int := (List.range n).map fun c => cntR c l
theorem livR_at {n : Nat} {l : List RSl} {c : Nat} (h : c < n) : (livR n l)[c]? = some (cntR c l) := by unfold livR; simp [h]
theorem livR_set {n : Nat} {l : List RSl} {x : RSl} (hc : x.c < n) (hu : x.used = true) : (livR n l).set x.c (cntR x.c l + 1) = livR n (l ++ [x]) := by
  refine List.ext_getElem? fun j => ?_
  rw [List.getElem?_set]
  rcases Nat.lt_or_ge j n with hj | hj
  · rw [livR_at hj, livR_at hj, cntR_app]
    by_cases e : x.c = j
    · subst e
      rw [if_pos rfl, if_pos (by simp [livR, hc]), if_pos ⟨hu, rfl⟩]
    · rw [if_neg e, if_neg (fun h => e h.2), Int.add_zero]
  · rw [if_neg (by omega), List.getElem?_eq_none (by simp [livR]; omega), List.getElem?_eq_none (by simp [livR]; omega)]
theorem livR_no {n : Nat} {l : List RSl} {x : RSl} (hu : x.used = false) : livR n (l ++ [x]) = livR n l := by
  unfold livR
  refine List.map_congr_left (fun c _ => ?_)
  rw [cntR_app, if_neg (by rw [hu]; exact fun h => by cases h.1), Int.add_zero]
theorem sumB_app (sh : List (Int × Int)) (l : List RSl) (x : RSl) : sumB sh (l ++ [x]) = sumB sh l + (if x.used = true then szR sh x.c else 0) := by
  induction l with
  | nil => simp [sumB]
  | cons y l ih => simp only [List.cons_append, sumB, ih]; omega
theorem cntR_bd (c : Nat) : ∀ l : List RSl, 0 ≤ cntR c l ∧ cntR c l ≤ l.length
  | [] => by simp [cntR]
  | x :: l => by have := cntR_bd c l; simp only [cntR, List.length_cons]; split <;> (push_cast; omega)
theorem szR_at {sh : List (Int × Int)} {c : Nat} {z : Int × Int} (h : sh[c]? = some z) : szR sh c = z.1 := by unfold szR; rw [List.getD, h]; rfl
theorem sumB_bd (sh : List (Int × Int)) (hb : ∀ x ∈ sh, 0 ≤ x.1 ∧ x.1 ≤ 4096) : ∀ l : List RSl, 0 ≤ sumB sh l ∧ sumB sh l ≤ 4096 * l.length
  | [] => by simp [sumB]
  | x :: l => by
    have := sumB_bd sh hb l
    have h2 : 0 ≤ szR sh x.c ∧ szR sh x.c ≤ 4096 := by
      unfold szR
      rcases e : sh[x.c]? with _ | z
      · rw [List.getD, e]; simp
      · rw [List.getD, e]; exact hb z (List.mem_of_getElem? e)
    simp only [sumB, List.length_cons]
    split <;> (push_cast; omega)
def UCut (w : World) (n : Nat) (fa : Int) (a : Value) (wx : World) : Prop :=
  ∃ gu gL, a = .pointer (some ⟨gu, 0, none⟩) ∧ Blk wx gu 46 #[.slice (some ⟨gL, 0, none⟩) n n, .int .i64 0, .int .i64 fa] ∧ Blk wx gL 3 (Array.replicate n (.int .i64 0)) ∧ Keeps (fun _ => False) w wx ∧ w.heap.size ≤ gL ∧ w.heap.size ≤ gu
set_option maxRecDepth 100000 in
set_option maxHeartbeats 2000000 in
theorem rusage_any (w : World) (G : Nat → Prop) (b : Nat) (ρ : RA) (LA : Option Addr) (lc : Nat) (SA : Option Addr) (sc : Nat) (FA : Option Addr) (fc q : Nat) (h : RAm w G b ρ LA lc SA sc FA fc q) (hm : ρ.slots.length ≤ 1000000) (hn8 : ρ.sh.length ≤ 8) (hsh : ∀ x ∈ ρ.sh, 0 ≤ x.1 ∧ x.1 ≤ 4096) (hcl : ∀ x ∈ ρ.slots, x.c < ρ.sh.length) :
    Calls Try.prog 37 #[.pointer (some ⟨b, 0, none⟩)] w fun e w' => ∃ D m, e = .returned (.agg #[.slice D ρ.sh.length m, .int .i64 (sumB ρ.sh ρ.slots), .int .i64 ρ.faults]) ∧ Own w' w.heap.size 3 1 D ρ.sh.length m ((livR ρ.sh.length ρ.slots).map (.int .i64)) ∧ Keeps (fun _ => False) w w' := by
  obtain ⟨w1, hw1⟩ : ∃ w1, w1 = w.alloc (.cells #[.slice none 0 0, .int .i64 0, .int .i64 0] 46) := ⟨_, rfl⟩
  obtain ⟨gr, hgr⟩ : ∃ gr, gr = w.heap.size := ⟨_, rfl⟩
  have k1 : Keeps (fun _ => False) w w1 := by rw [hw1]; exact (Keeps.refl _ _).alloc _
  have hr1 : Blk w1 gr 46 #[.slice none 0 0, .int .i64 0, .int .i64 0] := by rw [hw1, hgr]; exact Blk.new _ _ _
  have h1 := h.quiet k1
  obtain ⟨n, hn⟩ : ∃ n, n = ρ.sh.length := ⟨_, rfl⟩
  obtain ⟨m, hmm⟩ : ∃ m, m = ρ.slots.length := ⟨_, rfl⟩
  obtain ⟨fa, hfa⟩ : ∃ fa, fa = ρ.faults := ⟨_, rfl⟩
  rw [← hn] at hn8 hcl ⊢
  rw [← hmm] at hm
  rw [← hfa]
  have d0 := h1.blk.cell 0
  rw [← hn] at d0
  have d4 := h1.blk.cell 4
  rw [← hfa] at d4
  have hbl := h1.blk.lt
  have H1 := hide h1
  have HR1 := hide hr1
  have HG := hide hgr
  have hgr' : w.heap.size ≤ gr := by omega
  have hrl := hr1.lt
  have HW := hide hw1
  have K1 := hide k1
  have HN := hide hn
  have HM := hide hmm
  have HFA := hide hfa
  have HSH := hide hsh
  have HCL := hide hcl
  have hmk := fun w => run_makeJ n (by omega) w
  clear h hw1 hgr k1 hr1 h1 hn hmm hfa hsh hcl
  go_enter Try.func37, Try.ntmps37
  go_upto_region 1 with fail
  rw [← HG.out, ← HW.out]
  go_cut [3] from 6 to 52 (fun a wx => UCut w1 n fa a wx)
  case first =>
    go_region
    all_goals
      try simp only [Act.put, List.getElem_toArray, List.getElem_cons_succ, List.getElem_cons_zero, List.setIfInBounds_toArray, List.set_cons_zero, List.set_cons_succ]
      go_wp2_with fail
      go_meet
      first
        | exact ⟨w1.heap.size, w1.heap.size + 1, rfl, (Blk.new w1 46 #[.slice (some ⟨w1.heap.size + 1, 0, none⟩) n n, .int .i64 0, .int .i64 fa]).alloc _, Blk.new_at (w1.alloc (.cells #[.slice (some ⟨w1.heap.size + 1, 0, none⟩) n n, .int .i64 0, .int .i64 fa] 46)) 3 (Array.replicate n (.int .i64 0)) (w1.heap.size + 1) (by simp), (((Keeps.refl _ _).alloc _).alloc _).drew, by omega, by omega⟩
        | exact ⟨w1.heap.size + 1, w1.heap.size, rfl, Blk.new_at (w1.alloc (.cells (Array.replicate n (.int .i64 0)) 3)) 46 #[.slice (some ⟨w1.heap.size, 0, none⟩) n n, .int .i64 0, .int .i64 fa] (w1.heap.size + 1) (by simp), (Blk.new w1 3 (Array.replicate n (.int .i64 0))).alloc _, (((Keeps.refl _ _).alloc _).alloc _).drew, by omega, by omega⟩
  case rest =>
  obtain ⟨w2, rfl⟩ : ∃ w2 : World, w2 = wc := ⟨_, rfl⟩
  obtain ⟨gu, gL, rfl, hu2, hL2, k2, hgL, hgu⟩ := hcut
  have h2 := H1.out.quiet k2
  have r2 := HR1.out.kept k2 (fun h => h)
  have d1 := h2.blk.cell 1
  rw [← HM.out] at d1
  have hbl2 := h2.blk.lt
  have so := h2.sl
  rw [← HM.out] at so
  have lo := h2.ls
  rw [← HN.out] at lo
  have hz : (livR n []).map (Value.int .i64) = List.replicate n (.int .i64 0) := by
    unfold livR
    rw [List.map_map, show (Value.int .i64 ∘ fun c => cntR c []) = fun _ => Value.int .i64 0 from rfl, List.map_const', List.length_range]
  have hL3 : Blk w2 gL 3 ((livR n []).map (Value.int .i64)).toArray := by rw [hz, List.toArray_replicate]; exact hL2
  have hS0 : ∀ p, inB SA p → ¬ (p = gu ∨ p = gL) := fun p hp e => e.elim (fun e => so.ne_blk hu2 (by decide) hp e) (fun e => so.ne_blk hL2 (by decide) hp e)
  have hA0 : ∀ p, inB LA p → ¬ (p = gu ∨ p = gL) := fun p hp e => e.elim (fun e => lo.ne_blk hu2 (by decide) hp e) (fun e => lo.ne_blk hL2 (by decide) hp e)
  have hb0 : ¬ (b = gu ∨ b = gL) := fun e => e.elim (fun e => h2.blk.ne hu2 (by decide) e) (fun e => h2.blk.ne hL2 (by decide) e)
  have hul : gu ≠ gL := fun e => hu2.ne hL2 (by decide) e
  have hgL2 := hL2.lt
  have H2 := hide h2
  have HR2 := hide r2
  have SO := hide so
  have LO := hide lo
  have HU2 := hide hu2
  have HL3 := hide hL3
  have HS0 := hide hS0
  have HA0 := hide hA0
  have HB0 := hide hb0
  have K2 := hide (K1.out.trans k2)
  have hgz : w.heap.size ≤ gL ∧ w.heap.size ≤ gu ∧ gr < gL ∧ gr < gu := by have := K1.out.size; omega
  clear h2 r2 so lo hu2 hL2 hL3 hS0 hA0 hb0 k2 hz d0 d4 hbl
  go_upto_region 3 with fail
  clear d1 hbl2
  go_loopw [22] (fun iv wr => ∃ i : Nat, i ≤ m ∧ iv = .int .i64 (i : Int) ∧ Hid (Blk wr gu 46 #[.slice (some ⟨gL, 0, none⟩) n n, .int .i64 (sumB ρ.sh (ρ.slots.take i)), .int .i64 fa]) ∧ Hid (Blk wr gL 3 ((livR n (ρ.slots.take i)).map (Value.int .i64)).toArray) ∧ Hid (Keeps (fun k => k = gu ∨ k = gL) w2 wr)) (fun iv _ => m - (intOf iv).toNat)
  case atStart => exact ⟨0, by omega, rfl, HU2, HL3, hide (Keeps.refl _ _)⟩
  case round =>
    obtain ⟨i, hi, rfl, HU, HL, HK⟩ := hrel
    obtain ⟨wo, rfl⟩ : ∃ wo : World, wo = wr := ⟨_, rfl⟩
    by_cases hlt : i < m
    · have e1 : decide (i < m) = true := by simpa using hlt
      have hl0 : i < ρ.slots.length := by rw [← HM.out]; exact hlt
      obtain ⟨x, hx⟩ : ∃ x, ρ.slots[i]? = some x := ⟨ρ.slots[i], List.getElem?_eq_getElem hl0⟩
      have hsn : ρ.slots.take (i + 1) = ρ.slots.take i ++ [x] := by rw [List.take_add_one, hx]; rfl
      obtain ⟨gs, rfl, _⟩ := Own.some_ SO.out (by omega)
      have so := SO.out.kept HK.out HS0.out
      obtain ⟨c0, c1, c2, c3, c4⟩ := rsl_at so hx
      have hgs := (so.inB ((inB_some _ _ _).2 rfl)).2
      have hxc := HCL.out x (List.mem_of_getElem? hx)
      have hiI : (i : Int) < (m : Int) := by omega
      have hi0 : (0 : Int) ≤ (i : Int) := by omega
      have HSn := hide hsn
      have hti : (ρ.slots.take i).length ≤ 1000000 := by rw [List.length_take]; omega
      obtain ⟨g5, hg5⟩ : ∃ g5, g5 = wo.heap.size := ⟨_, rfl⟩
      obtain ⟨w3, hw3⟩ : ∃ w3, w3 = wo.alloc (.cells (rslC x).toArray 139) := ⟨_, rfl⟩
      have k3 : Keeps (fun _ => False) wo w3 := by rw [hw3]; exact (Keeps.refl _ _).alloc _
      have x3 : Blk w3 g5 139 (rslC x).toArray := by rw [hw3, hg5]; exact Blk.new _ _ _
      have u3 := HU.out.kept k3 (fun h => h)
      have l3 := HL.out.kept k3 (fun h => h)
      have HX3 := hide x3
      have HU3 := hide u3
      have HL3' := hide l3
      have K3 := hide (HK.out.step0 k3)
      have hg5b : gu ≠ g5 ∧ gL ≠ g5 := ⟨by have := HU.out.lt; omega, by have := HL.out.lt; omega⟩
      have HG5 := hide hg5
      have HW3 := hide hw3
      unfold rslC at HW3
      clear hg5 hw3 k3 x3 u3 l3 so hsn hl0 hx
      go_upto_region 5 with fail
      rw [← HG5.out, ← HW3.out]
      clear c0 c1 c2 c3 c4
      have x0 : w3.cell? ⟨g5, 0, none⟩ = some (.int .i64 (x.c : Int)) := HX3.out.cell 0
      have x3 : w3.cell? ⟨g5, 3, none⟩ = some (.bool x.used) := HX3.out.cell 3
      have hg5l := HX3.out.lt
      rcases hu : x.used with _ | _
      · rw [hu] at x3
        have HU4 : Hid (Blk w3 gu 46 #[.slice (some ⟨gL, 0, none⟩) n n, .int .i64 (sumB ρ.sh (ρ.slots.take (i + 1))), .int .i64 fa]) := hide (by
          have : sumB ρ.sh (ρ.slots.take i ++ [x]) = sumB ρ.sh (ρ.slots.take i) := by rw [sumB_app, if_neg (by rw [hu]; decide), Int.add_zero]
          rw [HSn.out, this]; exact HU3.out)
        have HL4 : Hid (Blk w3 gL 3 ((livR n (ρ.slots.take (i + 1))).map (Value.int .i64)).toArray) := hide (by rw [HSn.out, livR_no hu]; exact HL3'.out)
        clear hu
        go_wp2_with fail
        go_roundw
        case rel => exact ⟨i + 1, by omega, by go_num, HU4, HL4, K3⟩
        case measure => simp [intOf]; omega
      · rw [hu] at x3
        obtain ⟨cn, hcn⟩ : ∃ cn, cn = cntR x.c (ρ.slots.take i) := ⟨_, rfl⟩
        have hcb := cntR_bd x.c (ρ.slots.take i)
        have y0 : w3.cell? ⟨gu, 0, none⟩ = some (.slice (some ⟨gL, 0, none⟩) n n) := HU3.out.cell 0
        have yl : w3.cell? ⟨gL, x.c, none⟩ = some (.int .i64 cn) := (HL3'.out.cell x.c).trans (by rw [List.getElem?_toArray, List.getElem?_map, livR_at hxc, hcn]; rfl)
        have fl := HL3'.out.frozen x.c
        have hul3 := HU3.out.lt
        have hll3 := HL3'.out.lt
        have wcn : IntKind.i64.wrap (cn + 1) = cn + 1 := IntWalk.i64_in _ (by omega)
        have hxI : (x.c : Int) < (n : Int) := by omega
        have hx0 : (0 : Int) ≤ (x.c : Int) := by omega
        have l4 := HL3'.out.set x.c (.int .i64 (cn + 1))
        have hl4 : ((livR n (ρ.slots.take i)).map (Value.int .i64)).toArray.setIfInBounds x.c (.int .i64 (cn + 1)) = ((livR n (ρ.slots.take (i + 1))).map (Value.int .i64)).toArray := by
          rw [HSn.out, ← livR_set hxc hu, hcn, List.map_set]
          simp
        rw [hl4] at l4
        have k4 := keepsOne w3 gL x.c (.int .i64 (cn + 1))
        have u4 := HU3.out.kept k4 (fun e => hul e)
        have x4 := HX3.out.kept k4 (fun e => hg5b.2 e.symm)
        obtain ⟨w4, hw4⟩ : ∃ w4, w4 = w3.setCell ⟨gL, x.c, none⟩ (.int .i64 (cn + 1)) := ⟨_, rfl⟩
        rw [← hw4] at l4 k4 u4 x4
        have HL4 := hide l4
        have HU4 := hide u4
        have HX4 := hide x4
        have K4 := hide (K3.out.trans (k4.weak (S' := fun k => k = gu ∨ k = gL) (fun _ _ e => .inr e)))
        have HW4 := hide hw4
        have HUs := hide hu
        clear hu hcn hcb l4 k4 u4 x4 hw4 hl4
        go_upto_region 7 with fail
        rw [← HW4.out]
        clear x0 x3 y0 yl fl hul3 hll3 hg5l wcn
        obtain ⟨sz, hsz⟩ : ∃ sz, ρ.sh[x.c]? = some sz := ⟨ρ.sh[x.c]'(by rw [← HN.out]; exact hxc), List.getElem?_eq_getElem _⟩
        have hszb := HSH.out sz (List.mem_of_getElem? hsz)
        obtain ⟨gl, rfl, _⟩ := Own.some_ LO.out (by omega)
        have lo := LO.out.kept K4.out HA0.out
        obtain ⟨z0, z1⟩ := prs_cells lo hsz
        have b4 := H2.out.blk.kept K4.out HB0.out
        have d0 := b4.cell 0
        rw [← HN.out] at d0
        obtain ⟨su, hsu⟩ : ∃ su, su = sumB ρ.sh (ρ.slots.take i) := ⟨_, rfl⟩
        have hsb := sumB_bd ρ.sh HSH.out (ρ.slots.take i)
        have v1 : w4.cell? ⟨gu, 1, none⟩ = some (.int .i64 su) := by rw [hsu]; exact HU4.out.cell 1
        have fv1 := HU4.out.frozen 1
        have x0 : w4.cell? ⟨g5, 0, none⟩ = some (.int .i64 (x.c : Int)) := HX4.out.cell 0
        have wsu : IntKind.i64.wrap (su + sz.1) = su + sz.1 := IntWalk.i64_in _ (by omega)
        have hul4 := HU4.out.lt
        have hgl4 := (lo.inB ((inB_some _ _ _).2 rfl)).2
        have hx4l := HX4.out.lt
        have hb4l := b4.lt
        have u5 : Blk (w4.setCell ⟨gu, 1, none⟩ (.int .i64 (su + sz.1))) gu 46 #[.slice (some ⟨gL, 0, none⟩) n n, .int .i64 (sumB ρ.sh (ρ.slots.take (i + 1))), .int .i64 fa] := by
          have := HU4.out.set 1 (.int .i64 (su + sz.1))
          have e : sumB ρ.sh (ρ.slots.take i ++ [x]) = su + sz.1 := by rw [sumB_app, if_pos HUs.out, hsu, szR_at hsz]
          rw [HSn.out, e]
          exact this
        have HU5 := hide u5
        have k5 := keepsOne w4 gu 1 (.int .i64 (su + sz.1))
        have HL5 := hide (HL4.out.kept k5 (fun e => hul e.symm))
        have K5 := hide (K4.out.trans (k5.weak (S' := fun k => k = gu ∨ k = gL) (fun _ _ e => .inl e)))
        have HSg : Hid (∀ W, Keeps (fun _ => False) w4 W → (W.cell? ⟨b, 0, none⟩ = some (.slice (some ⟨gl, 0, none⟩) n lc) ∧ W.cell? ⟨gu, 1, none⟩ = some (.int .i64 su) ∧ W.cell? ⟨g5, 0, none⟩ = some (.int .i64 (x.c : Int)) ∧ W.cell? ⟨gl, x.c * 2, none⟩ = some (.int .i64 sz.1))) := hide (fun W kW => ⟨kW.cell_some d0 (fun h => h), kW.cell_some v1 (fun h => h), kW.cell_some x0 (fun h => h), kW.cell_some z0 (fun h => h)⟩)
        clear lo b4 hsu hsb u5 k5 hsz
        refine wp_region_N 14 (S := fun W => W.cell? ⟨b, 0, none⟩ = some (.slice (some ⟨gl, 0, none⟩) n lc) ∧ W.cell? ⟨gu, 1, none⟩ = some (.int .i64 su) ∧ W.cell? ⟨g5, 0, none⟩ = some (.int .i64 (x.c : Int)) ∧ W.cell? ⟨gl, x.c * 2, none⟩ = some (.int .i64 sz.1)) (by kernel_rfl) (HSg.out _ ((Keeps.refl _ _).drew)) (fun hHeld => ?_)
        refine wpAnyN_take (i := 0) (v := ?_) rfl (by kernel_rfl) (by kernel_rfl) (by kernel_rfl) (by kernel_rfl) (by kernel_rfl) (by kernel_rfl) (fun _ _ _ h => h) (Or.inl ⟨by first | kernel_rfl | rfl, ?_⟩) (by assumption) ?_; rotate_left; focus (intro w hSw; (try dsimp only at hSw); go_simp; try (with_reducible rfl)); (try simp only [Act.put, List.getElem_toArray, List.getElem_cons_succ, List.getElem_cons_zero, List.setIfInBounds_toArray, List.set_cons_zero, List.set_cons_succ])
        refine wpAnyN_take (i := 1) (v := ?_) rfl (by kernel_rfl) (by kernel_rfl) (by kernel_rfl) (by kernel_rfl) (by kernel_rfl) (by kernel_rfl) (fun _ _ _ h => h) (Or.inl ⟨by first | kernel_rfl | rfl, ?_⟩) (by assumption) ?_; rotate_left; focus (intro w hSw; (try dsimp only at hSw); go_simp; try (with_reducible rfl)); (try simp only [Act.put, List.getElem_toArray, List.getElem_cons_succ, List.getElem_cons_zero, List.setIfInBounds_toArray, List.set_cons_zero, List.set_cons_succ])
        refine wpAnyN_take (i := 2) (v := ?_) rfl (by kernel_rfl) (by kernel_rfl) (by kernel_rfl) (by kernel_rfl) (by kernel_rfl) (by kernel_rfl) (fun _ _ _ h => h) (Or.inl ⟨by first | kernel_rfl | rfl, ?_⟩) (by assumption) ?_; rotate_left; focus (intro w hSw; (try dsimp only at hSw); go_simp; try (with_reducible rfl)); (try simp only [Act.put, List.getElem_toArray, List.getElem_cons_succ, List.getElem_cons_zero, List.setIfInBounds_toArray, List.set_cons_zero, List.set_cons_succ])
        refine wpAnyN_take (i := 3) (v := ?_) rfl (by kernel_rfl) (by kernel_rfl) (by kernel_rfl) (by kernel_rfl) (by kernel_rfl) (by kernel_rfl) (fun _ _ _ h => h) (Or.inl ⟨by first | kernel_rfl | rfl, ?_⟩) (by assumption) ?_; rotate_left; focus (intro w hSw; (try dsimp only at hSw); go_simp; try (with_reducible rfl)); (try simp only [Act.put, List.getElem_toArray, List.getElem_cons_succ, List.getElem_cons_zero, List.setIfInBounds_toArray, List.set_cons_zero, List.set_cons_succ])
        refine wpAnyN_take (i := 4) (v := ?_) rfl (by kernel_rfl) (by kernel_rfl) (by kernel_rfl) (by kernel_rfl) (by kernel_rfl) (by kernel_rfl) (fun _ _ _ h => h) (Or.inl ⟨by first | kernel_rfl | rfl, ?_⟩) (by assumption) ?_; rotate_left; focus (intro w hSw; (try dsimp only at hSw); go_simp; try (with_reducible rfl)); (try simp only [Act.put, List.getElem_toArray, List.getElem_cons_succ, List.getElem_cons_zero, List.setIfInBounds_toArray, List.set_cons_zero, List.set_cons_succ])
        refine wpAnyN_take (i := 5) (v := ?_) rfl (by kernel_rfl) (by kernel_rfl) (by kernel_rfl) (by kernel_rfl) (by kernel_rfl) (by kernel_rfl) (fun _ _ _ h => h) (Or.inl ⟨by first | kernel_rfl | rfl, ?_⟩) (by assumption) ?_; rotate_left; focus (intro w hSw; (try dsimp only at hSw); go_simp; try (with_reducible rfl)); (try simp only [Act.put, List.getElem_toArray, List.getElem_cons_succ, List.getElem_cons_zero, List.setIfInBounds_toArray, List.set_cons_zero, List.set_cons_succ])
        refine wpAnyN_take (i := 6) (v := ?_) rfl (by kernel_rfl) (by kernel_rfl) (by kernel_rfl) (by kernel_rfl) (by kernel_rfl) (by kernel_rfl) (fun _ _ _ h => h) (Or.inl ⟨by first | kernel_rfl | rfl, ?_⟩) (by assumption) ?_; rotate_left; focus (intro w hSw; (try dsimp only at hSw); go_simp; try (with_reducible rfl)); (try simp only [Act.put, List.getElem_toArray, List.getElem_cons_succ, List.getElem_cons_zero, List.setIfInBounds_toArray, List.set_cons_zero, List.set_cons_succ])
        refine wpAnyN_take (i := 7) (v := ?_) rfl (by kernel_rfl) (by kernel_rfl) (by kernel_rfl) (by kernel_rfl) (by kernel_rfl) (by kernel_rfl) (fun _ _ _ h => h) (Or.inl ⟨by first | kernel_rfl | rfl, ?_⟩) (by assumption) ?_; rotate_left; focus (intro w hSw; (try dsimp only at hSw); go_simp; try (with_reducible rfl)); (try simp only [Act.put, List.getElem_toArray, List.getElem_cons_succ, List.getElem_cons_zero, List.setIfInBounds_toArray, List.set_cons_zero, List.set_cons_succ])
        refine wpAnyN_take (i := 8) (v := ?_) rfl (by kernel_rfl) (by kernel_rfl) (by kernel_rfl) (by kernel_rfl) (by kernel_rfl) (by kernel_rfl) (fun _ _ _ h => h) (Or.inl ⟨by first | kernel_rfl | rfl, ?_⟩) (by assumption) ?_; rotate_left; focus (intro w hSw; (try dsimp only at hSw); go_simp; try (with_reducible rfl)); (try simp only [Act.put, List.getElem_toArray, List.getElem_cons_succ, List.getElem_cons_zero, List.setIfInBounds_toArray, List.set_cons_zero, List.set_cons_succ])
        refine wpAnyN_take (i := 9) (v := ?_) rfl (by kernel_rfl) (by kernel_rfl) (by kernel_rfl) (by kernel_rfl) (by kernel_rfl) (by kernel_rfl) (fun _ _ _ h => h) (Or.inl ⟨by first | kernel_rfl | rfl, ?_⟩) (by assumption) ?_; rotate_left; focus (intro w hSw; (try dsimp only at hSw); go_simp; try (with_reducible rfl)); (try simp only [Act.put, List.getElem_toArray, List.getElem_cons_succ, List.getElem_cons_zero, List.setIfInBounds_toArray, List.set_cons_zero, List.set_cons_succ])
        refine wpAnyN_take (i := 10) (v := ?_) rfl (by kernel_rfl) (by kernel_rfl) (by kernel_rfl) (by kernel_rfl) (by kernel_rfl) (by kernel_rfl) (fun _ _ _ h => h) (Or.inl ⟨by first | kernel_rfl | rfl, ?_⟩) (by assumption) ?_; rotate_left; focus (intro w hSw; (try dsimp only at hSw); go_simp; try (with_reducible rfl)); (try simp only [Act.put, List.getElem_toArray, List.getElem_cons_succ, List.getElem_cons_zero, List.setIfInBounds_toArray, List.set_cons_zero, List.set_cons_succ])
        refine wpAnyN_take (i := 11) (v := ?_) rfl (by kernel_rfl) (by kernel_rfl) (by kernel_rfl) (by kernel_rfl) (by kernel_rfl) (by kernel_rfl) (fun _ _ _ h => h) (Or.inl ⟨by first | kernel_rfl | rfl, ?_⟩) (by assumption) ?_; rotate_left; focus (intro w hSw; (try dsimp only at hSw); go_simp; try (with_reducible rfl)); (try simp only [Act.put, List.getElem_toArray, List.getElem_cons_succ, List.getElem_cons_zero, List.setIfInBounds_toArray, List.set_cons_zero, List.set_cons_succ])
        refine wpAnyN_take (i := 12) (v := ?_) rfl (by kernel_rfl) (by kernel_rfl) (by kernel_rfl) (by kernel_rfl) (by kernel_rfl) (by kernel_rfl) (fun _ _ _ h => h) (Or.inl ⟨by first | kernel_rfl | rfl, ?_⟩) (by assumption) ?_; rotate_left; focus (intro w hSw; (try dsimp only at hSw); go_simp; try (with_reducible rfl)); (try simp only [Act.put, List.getElem_toArray, List.getElem_cons_succ, List.getElem_cons_zero, List.setIfInBounds_toArray, List.set_cons_zero, List.set_cons_succ])
        refine wpAnyN_take (i := 13) (v := ?_) rfl (by kernel_rfl) (by kernel_rfl) (by kernel_rfl) (by kernel_rfl) (by kernel_rfl) (by kernel_rfl) (fun _ _ _ h => h) (Or.inl ⟨by first | kernel_rfl | rfl, ?_⟩) (by assumption) ?_; rotate_left; focus (intro w hSw; (try dsimp only at hSw); go_simp; try (with_reducible rfl)); (try simp only [Act.put, List.getElem_toArray, List.getElem_cons_succ, List.getElem_cons_zero, List.setIfInBounds_toArray, List.set_cons_zero, List.set_cons_succ])
        refine wpAnyN_last (by kernel_rfl) rfl (fun K hK => ?_)
        go_simp
        refine hK.out _ _ ?_
        clear hK K hHeld
        (try simp only [Act.put, List.getElem_toArray, List.getElem_cons_succ, List.getElem_cons_zero, List.setIfInBounds_toArray, List.set_cons_zero, List.set_cons_succ])
        refine wpAnyN_done (by kernel_rfl) ?_ _
        (try simp only [Act.put, List.getElem_toArray, List.getElem_cons_succ, List.getElem_cons_zero, List.setIfInBounds_toArray, List.set_cons_zero, List.set_cons_succ])
        clear d0 v1 fv1 x0 z0 z1 wsu hul4 hgl4 hx4l hb4l HSg
        go_wp2_with fail
        go_roundw
        case rel => exact ⟨i + 1, by omega, by go_num, hide (HU5.out.drewN 1), hide (HL5.out.drewN 1), hide (K5.out.drewN 1)⟩
        case measure => simp [intOf]; omega
    · have e1 : decide (i < m) = false := by simpa using hlt
      obtain rfl : i = m := by omega
      rw [List.take_of_length_le (by rw [← HM.out]; exact Nat.le_refl _)] at HU HL
      have r4 := HR2.out.kept HK.out (fun e => by omega)
      obtain ⟨⟨q0, q1, q2⟩, ⟨f0, f1, f2⟩, hql⟩ := r4.three
      obtain ⟨⟨u0, u1, u2⟩, _, hul2⟩ := HU.out.three
      obtain ⟨su, hsu⟩ : ∃ su, su = sumB ρ.sh ρ.slots := ⟨_, rfl⟩
      rw [← hsu] at u1
      have HSU := hide hsu
      obtain ⟨hs6, ks6⟩ := set_h3 r4 (.slice (some ⟨gL, 0, none⟩) n n) (.int .i64 su) (.int .i64 fa)
      have K6 := hide ((K2.out.step HK.out (fun p hp e => by omega)).step ks6 (fun p hp e => by omega))
      have HL6 := hide (HL.out.kept ks6 (fun e => by omega))
      have HS6 := hide hs6
      clear hs6 ks6 r4 hsu
      go_wp2_with fail
      obtain ⟨w6, hw6⟩ : ∃ w6, w6 = ((wo.setCell ⟨gr, 0, none⟩ (.slice (some ⟨gL, 0, none⟩) n n)).setCell ⟨gr, 1, none⟩ (.int .i64 su)).setCell ⟨gr, 2, none⟩ (.int .i64 fa) := ⟨_, rfl⟩
      rw [← hw6] at HS6 HL6 K6 ⊢
      obtain ⟨⟨r0, r1, r2⟩, _⟩ := HS6.out.three
      clear hw6
      refine bodyPost_ret (v := .agg #[.slice (some ⟨gL, 0, none⟩) n n, .int .i64 su, .int .i64 fa]) (by simp [results, Try.results37, go_sem, r0, r1, r2]) rfl ?_
      exact ⟨some ⟨gL, 0, none⟩, n, by rw [HSU.out], own_blk HL6.out (by simp [livR]) (by simp only [maxLen]; omega) _ hgz.1, K6.out⟩
end Go.Proofs.Ytidobhflijdccaa
