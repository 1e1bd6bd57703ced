/-
  queue.Weight. No conditions beyond those of the statement.
-/
import Derived.Test.YtidobhflijdccaaQd
import Derived.Test.YtidobhflijdccaaSat
set_option linter.unusedVariables false
set_option linter.unusedSimpArgs false
namespace Go.Proofs.Ytidobhflijdccaa
open Go.RowKit Cfp
/-- the weights of a window and a key -/
def wgtF (win : Int) (key : List UInt8) (l : List Wt) : Int := l.foldl (fun acc x => if x.win = win ∧ x.text = key then Sat.add acc x.wgt else acc) 0
theorem wgtF_snoc (win : Int) (key : List UInt8) (l : List Wt) (x : Wt) : wgtF win key (l ++ [x]) = if x.win = win ∧ x.text = key then Sat.add (wgtF win key l) x.wgt else wgtF win key l := by
  unfold wgtF
  rw [List.foldl_append]
  rfl
def WgB (l : List Wt) : Prop := ∀ x ∈ l, 0 ≤ x.wgt ∧ x.wgt < 18446744073709551616
theorem wgtF_bd (win : Int) (key : List UInt8) (l : List Wt) (h : WgB l) : ∀ k, 0 ≤ wgtF win key (l.take k) ∧ wgtF win key (l.take k) < 18446744073709551616 := by
  intro k
  induction k with
  | zero => simp [wgtF]
  | succ k ih =>
    rcases hx : l[k]? with _ | x
    · rw [List.take_of_length_le (by have := List.getElem?_eq_none_iff.1 hx; omega)] at ih ⊢
      exact ih
    · rw [List.take_add_one, hx, Option.toList_some, wgtF_snoc]
      split
      · exact Sat.add_bd _ _ ih.1 (h x (List.mem_of_getElem? hx)).1
      · exact ih
theorem qweight_nil (w : World) (z : Int) (t : ByteArray) : Calls Try.prog 61 #[.pointer none, .int .i64 z, .string t] w fun e w' => e = .returned (.int .u64 0) ∧ w' = w := by
  go_enter Try.func61, Try.ntmps61
  go_wp2_with fail
  go_ret
  exact ⟨rfl, rfl⟩
set_option maxRecDepth 100000 in
set_option maxHeartbeats 3000000 in
theorem qweight_ok (w : World) (B q a p mb G n : Nat) (nk : Int) (sh : List (Int × Int)) (W R : List Wt) (E : List PE) (EA : Option Addr) (cap : Nat) (D : KD) (s : Ar) (L : Nat → List Nat) (M M2 : Int) (h : Qu w B q a p mb G n nk sh W R E EA cap D s L M M2) (hM : M ≤ 900000) (hw : WgB W) (z : Int) (t : ByteArray) :
    Calls Try.prog 61 #[.pointer (some ⟨q, 0, none⟩), .int .i64 z, .string t] w fun e w' => e = .returned (.int .u64 (wgtF z t.data.toList W)) ∧ Keeps (fun _ => False) w w' := by
  obtain ⟨⟨p0, p1, p2, p3⟩, hpw⟩ := h.qu.cells
  obtain ⟨m, hm⟩ : ∃ m, m = W.length := ⟨_, rfl⟩
  have hmn : m ≤ n := by have := h.len; omega
  rw [← hm] at p3
  have hn64 := h.n64
  obtain ⟨A', hsl, hrd, _⟩ := sub_hi (P := Try.prog) elemWt (some ⟨G, 0, none⟩) n n .i64 (m : Int) (by omega) (by omega) (Nat.le_refl _)
  rw [Int.toNat_natCast] at hsl hrd
  have hR := hrd w w.heap.size _ (h.qu.own.rd (by omega))
  rw [← wtCs_take, show (W ++ R).take m = W by rw [hm]; simp] at hR
  have HR := hide hR
  have H := hide h
  have HM := hide hm
  have HB := hide hw
  clear hrd hR h hm hw
  go_enter Try.func61, Try.ntmps61
  go_upto_region 4 with fail
  trace "R4"
  go_quiet (fail)
  trace "R4b"
  go_wp2_with fail
  trace "LOOP"
  have KQ := hide ((Keeps.refl (fun _ => False) w).drewN nq)
  generalize w.drewN nq = wq at *
  go_loopw [7, 9, 10, 11, 24] (fun sv _ _ _ iv wr => ∃ k : Nat, k ≤ m ∧ iv = .int .i64 k ∧ sv = .int .u64 (wgtF z t.data.toList (W.take k)) ∧ Hid (Keeps (fun _ => False) w wr)) (fun _ _ _ _ iv _ => m - (intOf iv).toNat)
  case atStart => exact ⟨0, by omega, rfl, by simp [wgtF], KQ⟩
  case round =>
    obtain ⟨k, hk, rfl, rfl, KR⟩ := hrel
    by_cases hkm : k < m
    · obtain ⟨x, hx⟩ : ∃ x, W[k]? = some x := ⟨W[k]'(by rw [← HM.out]; exact hkm), by simp⟩
      obtain ⟨b, off, rfl, _, hc⟩ := HR.out.2 (by omega)
      have hcx : ∀ j u, j < 7 → (wtC x)[j]? = some u → wr.cell? ⟨b, off + (k * 7 + j), none⟩ = some u := fun j u hj hu => KR.out.cell_some (hc (k * 7 + j) u ((wtCs_at hx j hj).trans hu)) (fun h => h)
      have c0 := hcx 0 _ (by omega) rfl
      have c1 := hcx 1 _ (by omega) rfl
      have c2 := hcx 2 _ (by omega) rfl
      have c3 := hcx 3 _ (by omega) rfl
      have c4 := hcx 4 _ (by omega) rfl
      have c5 := hcx 5 _ (by omega) rfl
      have c6 := hcx 6 _ (by omega) rfl
      rw [Nat.add_zero] at c0
      rw [← Nat.add_assoc] at c1 c2 c3 c4 c5 c6
      have hkI : (k : Int) < (m : Int) := by omega
      have hk0 : (0 : Int) ≤ (k : Int) := by omega
      have HKM : Hid (k + 1 ≤ m) := hkm
      have hxm := List.mem_of_getElem? hx
      obtain ⟨ee, hee, hek, heu, hel1, hel2⟩ := H.out.iv.users hxm
      have HEe := hide hee
      have HEk := hide hek
      have hxw := HB.out x hxm
      have hab := wgtF_bd z t.data.toList W HB.out k
      have hsn : wgtF z t.data.toList (W.take (k + 1)) = if x.win = z ∧ x.text = t.data.toList then Sat.add (wgtF z t.data.toList (W.take k)) x.wgt else wgtF z t.data.toList (W.take k) := by
        rw [List.take_add_one, hx, Option.toList_some, wgtF_snoc]
      obtain ⟨acc, hacc⟩ : ∃ acc, acc = wgtF z t.data.toList (W.take k) := ⟨_, rfl⟩
      rw [← hacc] at hab hsn
      rw [← hacc]
      have HSn := hide hsn
      have HR1 := hide (H.out.quiet KR.out)
      clear hcx hc hee hek hx hxm hsn hacc
      obtain ⟨Y, hYe⟩ : ∃ Y, Y = wr.heap.size := ⟨_, rfl⟩
      have HY := hide (Blk.new_at wr 158 #[.int .i64 x.win, .int .i64 x.time, .int .u64 x.wgt, .int .i64 x.h.1, .int .i64 x.h.2.1, .int .i64 x.h.2.2, .int .i64 x.key] Y hYe)
      have kb := (Keeps.refl (fun _ => False) wr).alloc (.cells #[.int .i64 x.win, .int .i64 x.time, .int .u64 x.wgt, .int .i64 x.h.1, .int .i64 x.h.2.1, .int .i64 x.h.2.2, .int .i64 x.key] 158)
      have H2 := hide (HR1.out.quiet kb)
      have K2 := hide (KR.out.trans kb)
      have HYe := hide hYe
      clear kb HR1 hYe
      go_upto_region 7 with fail
      trace "R7"
      rw [← HYe.out]
      generalize wr.alloc _ = w2 at *
      clear c0 c1 c2 c3 c4 c5 c6
      obtain ⟨⟨p0, p1, p2, p3⟩, hpw⟩ := H2.out.qu.cells
      rw [← HM.out] at p3
      have y0 := HY.out.cell 0
      have y2 := HY.out.cell 2
      have y6 := HY.out.cell 6
      have HT : Hid (∀ wa, Keeps (fun _ => False) w2 wa → Calls Try.prog 40 #[.pointer (some ⟨p, 0, none⟩), .int .i64 x.key] wa fun e w' => e = .returned (.tuple #[.string ⟨x.text.toArray⟩, .int .i64 0]) ∧ Keeps (fun _ => False) w2 w') := hide (fun wa ka => by
        refine (pText_ok wa B p a mb cap nk E EA D s M M2 L (H2.out.po.quiet ka) (H2.out.ar.quiet ka) H2.out.iv.iv H2.out.iv.pv x.key ee HEe.out heu (by have := H2.out.iv.pv.len; omega) (Nat.le_trans H2.out.hB ka.size)).mono ?_
        rintro e w' ⟨rfl, k⟩
        exact ⟨by rw [HEk.out], ka.trans k⟩)
      have HSg : Hid (∀ W, Keeps (fun _ => False) w2 W → (Keeps (fun _ => False) w2 W ∧ W.cell? ⟨q, 1, none⟩ = some (.pointer (some ⟨p, 0, none⟩)) ∧ W.cell? ⟨Y, 6, none⟩ = some (.int .i64 x.key))) := hide (fun W kW => ⟨kW, kW.cell_some p1 (fun h => h), kW.cell_some y6 (fun h => h)⟩)
      refine wp_region_held_drew (S := fun W => Keeps (fun _ => False) w2 W ∧ W.cell? ⟨q, 1, none⟩ = some (.pointer (some ⟨p, 0, none⟩)) ∧ W.cell? ⟨Y, 6, none⟩ = some (.int .i64 x.key)) (by kernel_rfl) (HSg.out _ ((Keeps.refl _ _).drew)) (fun hHeld => ?_)
      refine wpAnyH_take (i := 0) (v := ?_) rfl (by kernel_rfl) (by kernel_rfl) (by kernel_rfl) (fun _ _ _ h => h) (Or.inl ⟨by first | kernel_rfl | rfl, ?_⟩) (by assumption) ?_; rotate_left; focus (intro w hSw; (try dsimp only at hSw); go_simp; try (with_reducible rfl)); (try simp only [Act.put, List.getElem_toArray, List.getElem_cons_succ, List.getElem_cons_zero, List.setIfInBounds_toArray, List.set_cons_zero, List.set_cons_succ])
      refine wpAnyH_take (i := 1) (v := ?_) rfl (by kernel_rfl) (by kernel_rfl) (by kernel_rfl) (fun _ _ _ h => h) (Or.inl ⟨by first | kernel_rfl | rfl, ?_⟩) (by assumption) ?_; rotate_left; focus (intro w hSw; (try dsimp only at hSw); go_simp; try (with_reducible rfl)); (try simp only [Act.put, List.getElem_toArray, List.getElem_cons_succ, List.getElem_cons_zero, List.setIfInBounds_toArray, List.set_cons_zero, List.set_cons_succ])
      refine wpAnyH_take (i := 2) (v := ?_) rfl (by kernel_rfl) (by kernel_rfl) (by kernel_rfl) (fun _ _ _ h => h) (Or.inl ⟨by first | kernel_rfl | rfl, ?_⟩) (by assumption) ?_; rotate_left; focus (intro w hSw; (try dsimp only at hSw); go_simp; try (with_reducible rfl)); (try simp only [Act.put, List.getElem_toArray, List.getElem_cons_succ, List.getElem_cons_zero, List.setIfInBounds_toArray, List.set_cons_zero, List.set_cons_succ])
      refine wpAnyH_take (i := 3) (v := ?_) rfl (by kernel_rfl) (by kernel_rfl) (by kernel_rfl) (fun _ _ _ h => h) (Or.inl ⟨by first | kernel_rfl | rfl, ?_⟩) (by assumption) ?_; rotate_left; focus (intro w hSw; (try dsimp only at hSw); go_simp; try (with_reducible rfl)); (try simp only [Act.put, List.getElem_toArray, List.getElem_cons_succ, List.getElem_cons_zero, List.setIfInBounds_toArray, List.set_cons_zero, List.set_cons_succ])
      refine wpAnyH_take (i := 4) (v := ?_) rfl (by kernel_rfl) (by kernel_rfl) (by kernel_rfl) (fun _ _ _ h => h) (Or.inl ⟨by first | kernel_rfl | rfl, ?_⟩) (by assumption) ?_; rotate_left; focus (intro w hSw; (try dsimp only at hSw); go_simp; try (with_reducible rfl)); (try simp only [Act.put, List.getElem_toArray, List.getElem_cons_succ, List.getElem_cons_zero, List.setIfInBounds_toArray, List.set_cons_zero, List.set_cons_succ])
      refine wpAnyH_take (i := 5) (v := ?_) rfl (by kernel_rfl) (by kernel_rfl) (by kernel_rfl) (fun _ _ _ h => h) (Or.inl ⟨by first | kernel_rfl | rfl, ?_⟩) (by assumption) ?_; rotate_left; focus (intro w hSw; (try dsimp only at hSw); go_simp; try (with_reducible rfl)); (try simp only [Act.put, List.getElem_toArray, List.getElem_cons_succ, List.getElem_cons_zero, List.setIfInBounds_toArray, List.set_cons_zero, List.set_cons_succ])
      refine wpAnyH_ready (rs := [6]) (by kernel_rfl) (by simp) ?_
      refine AllReadyH.cons rfl (fun K hK => ?_) AllReadyH.nil
      go_simp
      trace "TEXT"
      go_at_call 40
      refine (HT.out _ ((Keeps.refl _ _).drew)).mono ?_
      rintro e w3 ⟨rfl, k3⟩
      (try go_wp2_with fail)
      refine hK.out _ _ (HSg.out _ k3) (fun _ => ?_)
      have HY3 := hide (HY.out.kept k3 (fun h => h))
      have K3 := hide (K2.out.trans k3)
      clear hK K HSg hHeld k3 HT H2 HY K2 p0 p1 p2 p3 hpw y0 y2 y6
      (try simp only [Act.put, List.getElem_toArray, List.getElem_cons_succ, List.getElem_cons_zero, List.setIfInBounds_toArray, List.set_cons_zero, List.set_cons_succ])
      refine wpAnyH_take (i := 7) (v := ?_) rfl (by kernel_rfl) (by kernel_rfl) (by kernel_rfl) (fun _ _ _ h => h) (Or.inl ⟨by first | kernel_rfl | rfl, ?_⟩) (by assumption) ?_; rotate_left; focus (intro w hSw; (try dsimp only at hSw); go_simp; try (with_reducible rfl)); (try simp only [Act.put, List.getElem_toArray, List.getElem_cons_succ, List.getElem_cons_zero, List.setIfInBounds_toArray, List.set_cons_zero, List.set_cons_succ])
      refine wpAnyH_take (i := 8) (v := ?_) rfl (by kernel_rfl) (by kernel_rfl) (by kernel_rfl) (fun _ _ _ h => h) (Or.inl ⟨by first | kernel_rfl | rfl, ?_⟩) (by assumption) ?_; rotate_left; focus (intro w hSw; (try dsimp only at hSw); go_simp; try (with_reducible rfl)); (try simp only [Act.put, List.getElem_toArray, List.getElem_cons_succ, List.getElem_cons_zero, List.setIfInBounds_toArray, List.set_cons_zero, List.set_cons_succ])
      refine wpAnyH_take (i := 9) (v := ?_) rfl (by kernel_rfl) (by kernel_rfl) (by kernel_rfl) (fun _ _ _ h => h) (Or.inl ⟨by first | kernel_rfl | rfl, ?_⟩) (by assumption) ?_; rotate_left; focus (intro w hSw; (try dsimp only at hSw); go_simp; try (with_reducible rfl)); (try simp only [Act.put, List.getElem_toArray, List.getElem_cons_succ, List.getElem_cons_zero, List.setIfInBounds_toArray, List.set_cons_zero, List.set_cons_succ])
      refine wpAnyH_take (i := 10) (v := ?_) rfl (by kernel_rfl) (by kernel_rfl) (by kernel_rfl) (fun _ _ _ h => h) (Or.inl ⟨by first | kernel_rfl | rfl, ?_⟩) (by assumption) ?_; rotate_left; focus (intro w hSw; (try dsimp only at hSw); go_simp; try (with_reducible rfl)); (try simp only [Act.put, List.getElem_toArray, List.getElem_cons_succ, List.getElem_cons_zero, List.setIfInBounds_toArray, List.set_cons_zero, List.set_cons_succ])
      refine wpAnyH_take (i := 11) (v := ?_) rfl (by kernel_rfl) (by kernel_rfl) (by kernel_rfl) (fun _ _ _ h => h) (Or.inl ⟨by first | kernel_rfl | rfl, ?_⟩) (by assumption) ?_; rotate_left; focus (intro w hSw; (try dsimp only at hSw); go_simp; try (with_reducible rfl)); (try simp only [Act.put, List.getElem_toArray, List.getElem_cons_succ, List.getElem_cons_zero, List.setIfInBounds_toArray, List.set_cons_zero, List.set_cons_succ])
      refine wpAnyH_done (by kernel_rfl) ?_ _
      (try simp only [Act.put, List.getElem_toArray, List.getElem_cons_succ, List.getElem_cons_zero, List.setIfInBounds_toArray, List.set_cons_zero, List.set_cons_succ])
      go_upto_region 8 with fail
      trace "R8"
      have y0 := HY3.out.cell 0
      have y2 := HY3.out.cell 2
      by_cases h1 : x.win = z
      · have b1 : (x.win == z) = true := by simpa using h1
        by_cases h2 : x.text = t.data.toList
        · have b2 : (x.text == t.toList) = true := by rw [ByteArray.toList_eq, h2]; simp
          have HV : Hid (wgtF z t.data.toList (W.take (k + 1)) = Sat.add acc x.wgt) := hide (by rw [HSn.out, if_pos ⟨h1, h2⟩])
          clear h1 h2 HSn
          go_wp2_with (go_at_call 74; refine (Sat.add_any _ _ (by omega) (by omega) (by omega) (by omega) _).mono ?_; rintro e w' ⟨rfl, rfl⟩)
          go_roundw
          case rel => exact ⟨k + 1, HKM.out, by go_num, by rw [HV.out], K3⟩
          case measure => have := HKM.out; simp [intOf]; omega
        · have b2 : (x.text == t.toList) = false := by rw [ByteArray.toList_eq]; simpa using h2
          have HV : Hid (wgtF z t.data.toList (W.take (k + 1)) = acc) := hide (by rw [HSn.out, if_neg (fun q => h2 q.2)])
          clear h1 h2 HSn
          go_wp2_with fail
          go_roundw
          case rel => exact ⟨k + 1, HKM.out, by go_num, by rw [HV.out], K3⟩
          case measure => have := HKM.out; simp [intOf]; omega
      · have b1 : (x.win == z) = false := by simpa using h1
        have HV : Hid (wgtF z t.data.toList (W.take (k + 1)) = acc) := hide (by rw [HSn.out, if_neg (fun q => h1 q.1)])
        clear h1 HSn
        go_wp2_with fail
        go_roundw
        case rel => exact ⟨k + 1, HKM.out, by go_num, by rw [HV.out], K3⟩
        case measure => have := HKM.out; simp [intOf]; omega
    · obtain rfl : k = m := by omega
      have HV : Hid (W.take k = W) := hide (by rw [HM.out]; simp)
      go_wp2_with fail
      go_ret
      exact ⟨ret_int (by rw [HV.out]), KR.out⟩
end Go.Proofs.Ytidobhflijdccaa
