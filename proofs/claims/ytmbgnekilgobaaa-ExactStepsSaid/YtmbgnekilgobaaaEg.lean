
/-
  slices.Insert of one entry where there is room; and on all its roads. No conditions beyond those of the statement.
-/
import Derived.Test.YtmbgnekilgobaaaEf
set_option linter.unusedVariables false
set_option linter.unusedSimpArgs false
namespace Go.Proofs.Ytmbgnekilgobaaa
open Go.RowKit Go.ChangeShapes Go.WideShapes
theorem Own.whole {w : World} {B g n c sz : Nat} {e : TypeId} {xs : List Value} (h : Own w B e sz (some ⟨g, 0, none⟩) n c xs) : ∃ cur, Blk w g e cur ∧ cur.size = c * sz := by
  rcases h.2 with ⟨hv, _⟩ | ⟨g', cap, cur, hv, hbg, hg, hnc, hcm, hcs, htake⟩
  · cases hv
  · injection hv with h1 h2 h3
    injection h1 with h1
    injection h1 with h1
    subst h1 h3
    exact ⟨cur, hg, hcs⟩
set_option maxRecDepth 100000 in
set_option maxHeartbeats 1000000 in
theorem ins_room (w : World) (B g n c i : Nat) (l : List Ln) (x : Ln) (gv : Nat) (ho : Ens w B (some ⟨g, 0, none⟩) n c l) (hB : B ≤ w.heap.size) (hv : Blk w gv 53 (lnC x).toArray) (hgv : gv ≠ g) (hn : n ≤ 100000) (hi : i < n) (hc : n + 1 ≤ c) :
    Calls Try.prog 64 #[.slice (some ⟨g, 0, none⟩) n c, .int .i64 i, .slice (some ⟨gv, 0, none⟩) 1 1] w (InsPost w B (some ⟨g, 0, none⟩) n l i x) := by
  have hnc := Own.le ho
  have hl := hide (Lns.len_en ho)
  have HV := hide hv
  obtain ⟨sp, hsp, ho1⟩ := Own.spare ho hc
  obtain ⟨cur, hcur, hcs⟩ := Own.whole ho
  have hov := overlaps_no w gv g 0 ((i + 1) * 3) 1 1 (n - i) (c - (i + 1)) (lnC x).toArray cur _ _ hv hcur hgv (by omega)
  have HOv := hide hov
  have HO1 := hide ho1
  have HSp := hide hsp
  have hs1 := sub_at elemEn g n c .i64 (i : Int) (by omega) (by omega) hnc (by omega)
  have hs2 := sub_cap elemEn g n c .i64 ((n : Int) + 1) (by omega) (by omega)
  have hs3 := sub_at elemEn g (n + 1) c .i64 ((i : Int) + 1) (by omega) (by omega) hc (by omega)
  have hs4 := sub_at elemEn g (n + 1) c .i64 (i : Int) (by omega) (by omega) hc (by omega)
  rw [show ((i : Nat) : Int).toNat = i from by omega] at hs1 hs4
  rw [show ((i : Int) + 1).toNat = i + 1 from by omega] at hs3
  rw [show ((n : Int) + 1).toNat = n + 1 from by omega] at hs2
  have e1 : decide (c < n + 1) = false := by simp; omega
  have e1' : ¬ (c : Int) < (n : Int) + 1 := by omega
  have e2 : ((i : Int) == (n : Int)) = false := by simp; omega
  have wn1 : IntKind.i64.wrap ((n : Int) + 1) = (n : Int) + 1 := IntWalk.i64_in _ (by omega)
  have wi1 : IntKind.i64.wrap ((i : Int) + 1) = (i : Int) + 1 := IntWalk.i64_in _ (by omega)
  clear ho hv ho1 hsp hcur hcs
  go_enter Try.func64, Try.ntmps64
  go_upto_region 15 with fail
  obtain ⟨A5, hs5, hr5, hi5⟩ := sub_lo elemEn (some ⟨g, 0, none⟩) (n + 1) c .i64 (i : Int) (by omega) (by omega) hc
  rw [show ((i : Nat) : Int).toNat = i from by omega] at hs5 hr5
  have hA5 : A5 = some ⟨g, i * 3, none⟩ := by
    have h1 := hs5 w
    rw [hs4 w] at h1
    injection h1 with h1
    injection h1 with h1
    exact h1.symm
  subst hA5
  have RC := hide (hr5 _ _ _ (HO1.out.rd (by omega)))
  have hTk : Hid (((lnCs l ++ sp).drop (i * 3)).take ((n - i) * 3) = lnCs (l.drop i)) := hide (by
    rw [List.drop_append_of_le_length (by rw [lnCs_len, hl.out]; omega), lnCs_drop, List.take_append_of_le_length (by rw [lnCs_len, List.length_drop, hl.out]; exact Nat.le_refl _), List.take_of_length_le (by rw [lnCs_len, List.length_drop, hl.out]; exact Nat.le_refl _)])
  clear hs5 hr5 hi5
  refine wp_region_held_drew (S := fun _ => True) (by kernel_rfl) trivial (fun hHeld => ?_)
  refine wpAnyH_take (i := 0) (v := ?_) rfl (by kernel_rfl) (by kernel_rfl) (by kernel_rfl) (fun _ _ _ h => h) (Or.inl ⟨by first | kernel_rfl | rfl, ?_⟩) (by assumption) ?_; rotate_left; focus (intro w hSw; (try dsimp only at hSw); go_simp; try (with_reducible rfl)); (try simp only [Act.put, List.getElem_toArray, List.getElem_cons_succ, List.getElem_cons_zero, List.setIfInBounds_toArray, List.set_cons_zero, List.set_cons_succ])
  refine wpAnyH_take (i := 1) (v := ?_) rfl (by kernel_rfl) (by kernel_rfl) (by kernel_rfl) (fun _ _ _ h => h) (Or.inl ⟨by first | kernel_rfl | rfl, ?_⟩) (by assumption) ?_; rotate_left; focus (intro w hSw; (try dsimp only at hSw); go_simp; try (with_reducible rfl)); (try simp only [Act.put, List.getElem_toArray, List.getElem_cons_succ, List.getElem_cons_zero, List.setIfInBounds_toArray, List.set_cons_zero, List.set_cons_succ])
  refine wpAnyH_take (i := 2) (v := ?_) rfl (by kernel_rfl) (by kernel_rfl) (by kernel_rfl) (fun _ _ _ h => h) (Or.inl ⟨by first | kernel_rfl | rfl, ?_⟩) (by assumption) ?_; rotate_left; focus (intro w hSw; (try dsimp only at hSw); go_simp; try (with_reducible rfl)); (try simp only [Act.put, List.getElem_toArray, List.getElem_cons_succ, List.getElem_cons_zero, List.setIfInBounds_toArray, List.set_cons_zero, List.set_cons_succ])
  refine wpAnyH_take (i := 3) (v := ?_) rfl (by kernel_rfl) (by kernel_rfl) (by kernel_rfl) (fun _ _ _ h => h) (Or.inl ⟨by first | kernel_rfl | rfl, ?_⟩) (by assumption) ?_; rotate_left; focus (intro w hSw; (try dsimp only at hSw); go_simp; try (with_reducible rfl)); (try simp only [Act.put, List.getElem_toArray, List.getElem_cons_succ, List.getElem_cons_zero, List.setIfInBounds_toArray, List.set_cons_zero, List.set_cons_succ])
  refine wpAnyH_take (i := 4) (v := ?_) rfl (by kernel_rfl) (by kernel_rfl) (by kernel_rfl) (fun _ _ _ h => h) (Or.inl ⟨by first | kernel_rfl | rfl, ?_⟩) (by assumption) ?_; rotate_left; focus (intro w hSw; (try dsimp only at hSw); go_simp; try (with_reducible rfl)); (try simp only [Act.put, List.getElem_toArray, List.getElem_cons_succ, List.getElem_cons_zero, List.setIfInBounds_toArray, List.set_cons_zero, List.set_cons_succ])
  refine wpAnyH_take (i := 5) (v := ?_) rfl (by kernel_rfl) (by kernel_rfl) (by kernel_rfl) (fun _ _ _ h => h) (Or.inl ⟨by first | kernel_rfl | rfl, ?_⟩) (by assumption) ?_; rotate_left; focus (intro w hSw; (try dsimp only at hSw); go_simp; try (with_reducible rfl)); (try simp only [Act.put, List.getElem_toArray, List.getElem_cons_succ, List.getElem_cons_zero, List.setIfInBounds_toArray, List.set_cons_zero, List.set_cons_succ])
  refine wpAnyH_take (i := 6) (v := ?_) rfl (by kernel_rfl) (by kernel_rfl) (by kernel_rfl) (fun _ _ _ h => h) (Or.inl ⟨by first | kernel_rfl | rfl, ?_⟩) (by assumption) ?_; rotate_left; focus (intro w hSw; (try dsimp only at hSw); go_simp; try (with_reducible rfl)); (try simp only [Act.put, List.getElem_toArray, List.getElem_cons_succ, List.getElem_cons_zero, List.setIfInBounds_toArray, List.set_cons_zero, List.set_cons_succ])
  refine wpAnyH_take (i := 7) (v := ?_) rfl (by kernel_rfl) (by kernel_rfl) (by kernel_rfl) (fun _ _ _ h => h) (Or.inl ⟨by first | kernel_rfl | rfl, ?_⟩) (by assumption) ?_; rotate_left; focus (intro w hSw; (try dsimp only at hSw); go_simp; try (with_reducible rfl)); (try simp only [Act.put, List.getElem_toArray, List.getElem_cons_succ, List.getElem_cons_zero, List.setIfInBounds_toArray, List.set_cons_zero, List.set_cons_succ])
  refine wpAnyH_ready (rs := [8]) (by kernel_rfl) (by simp) ?_
  refine AllReadyH.cons rfl (fun K hK => ?_) AllReadyH.nil
  refine step_copyM elemEn (by rfl) (.tmp 73) (.tmp 76) (by rfl) B g (n + 1) c _ (show Own w.drew _ _ _ _ _ _ _ from HO1.out) (i + 1) (n - i) (c - (i + 1)) ?hd w.heap.size (m := n + 1 - i) (c2 := c - i) _ ?hs (show Rd w.drew _ _ _ _ _ from RC.out) (by rw [hTk.out]; exact lnCs_one _) (by omega) (by omega) (by omega) ?_
  case hd => simp [Act.eval, Act.put]
  case hs => simp [Act.eval, Act.put]
  intro w8 o8 k8
  have hli : (lnCs (l.take i)).length = i * 3 := by rw [lnCs_len, List.length_take]; have := hl.out; omega
  have hli1 : (lnCs (l.take (i + 1))).length = (i + 1) * 3 := by rw [lnCs_len, List.length_take]; have := hl.out; omega
  have hll : (lnCs l).length = n * 3 := by rw [lnCs_len, hl.out]
  have hz : (lnCs l ++ sp).drop ((i + 1 + (n - i)) * 3) = [] := List.drop_of_length_le (by rw [List.length_append, hll, HSp.out]; omega)
  have hE : (lnCs l ++ sp).take ((i + 1) * 3) ++ ((lnCs l ++ sp).drop (i * 3)).take ((n - i) * 3) ++ (lnCs l ++ sp).drop ((i + 1 + (n - i)) * 3) = lnCs (l.take (i + 1)) ++ lnCs (l.drop i) := by
    rw [hTk.out, List.take_append_of_le_length (by rw [hll]; omega), lnCs_take, hz, List.append_nil]
  rw [hE] at o8
  have O8 := hide o8
  have K8 := hide ((Keeps.refl (· = g) w).drew.trans k8)
  have hF : Hid ((lnCs (l.take (i + 1)) ++ lnCs (l.drop i)).take (i * 3) ++ lnC x ++ (lnCs (l.take (i + 1)) ++ lnCs (l.drop i)).drop ((i + 1) * 3) = lnCs (l.take i ++ x :: l.drop i)) := hide (by
    rw [List.take_append_of_le_length (by rw [hli1]; omega), lnCs_take, List.take_take, Nat.min_eq_left (by omega), List.drop_left' hli1, ← lnCs1, ← lnCs_app, ← lnCs_app, List.append_assoc]
    rfl)
  clear o8 k8 hE hz hli hli1 hll
  refine hK.out _ _ trivial (fun _ => ?_)
  clear hK K
  (try simp only [Act.put, List.getElem_toArray, List.getElem_cons_succ, List.getElem_cons_zero, List.setIfInBounds_toArray, List.set_cons_zero, List.set_cons_succ])
  refine wpAnyH_done (by kernel_rfl) ?_ _
  (try simp only [Act.put, List.getElem_toArray, List.getElem_cons_succ, List.getElem_cons_zero, List.setIfInBounds_toArray, List.set_cons_zero, List.set_cons_succ])
  go_wp2_with ((refine wpList_copyO elemEn rfl (.tmp 80) (.tmp 81) rfl B g (n + 1) c _ O8.out i (n + 1 - i) (c - i) rfl w8.heap.size (m := 1) (lnC x) rfl (Blk.rd (HV.out.kept K8.out hgv) rfl) (lnC_one x) (by omega) (by omega) ?_); intro w9 o9 k9; rw [hF.out] at o9; have O9 := hide o9; have K9 := hide (K8.out.trans k9); clear o9 k9)
  go_ret
  exact ⟨some ⟨g, 0, none⟩, c, rfl, O9.out, K9.out.weak (fun k _ e => (inB_some _ _ _).2 e.symm), fun k hk => .inl hk⟩
/-- slices.Insert of one entry -/
theorem ins_any (w : World) (B : Nat) (A : Option Addr) (n c i : Nat) (l : List Ln) (x : Ln) (gv : Nat) (ho : Ens w B A n c l) (hB : B ≤ w.heap.size) (hv : Blk w gv 53 (lnC x).toArray) (hgv : ¬ inB A gv) (hn : n ≤ 100000) (hi : i ≤ n) :
    Calls Try.prog 64 #[.slice A n c, .int .i64 i, .slice (some ⟨gv, 0, none⟩) 1 1] w (InsPost w B A n l i x) := by
  rcases Nat.eq_or_lt_of_le hi with rfl | hlt
  · exact ins_end w B A i c l x gv ho hB hv hn
  · obtain ⟨g, rfl, _⟩ := Own.some_ ho (by omega)
    rcases Nat.lt_or_ge c (n + 1) with h | h
    · exact ins_grow w B g n c i l x gv ho hB hv hn hlt h
    · exact ins_room w B g n c i l x gv ho hB hv (fun e => hgv ((inB_some _ _ _).2 e.symm)) hn hlt h
end Go.Proofs.Ytmbgnekilgobaaa
