
/-
  slices.Insert of one entry where there is no room. No conditions beyond those of the statement.
-/
import Derived.Test.YtmbgnekilgobaaaEd
import Derived.Deep.RegionHeld3
set_option linter.unusedVariables false
set_option linter.unusedSimpArgs false
namespace Go.Proofs.Ytmbgnekilgobaaa
open Go.RowKit Go.ChangeShapes Go.WideShapes
/-- zeros of entries -/
theorem zeros_en (k : Nat) : (Builtin.zeroCells (Value.agg #[.string ⟨#[]⟩, .int .u64 0, .int .u64 0]).cells k).size = k * 3 := by
  rw [size_zeroCells]
  rfl
set_option maxRecDepth 100000 in
/-- 'append(s[:i], make(S, k)...)' without room -/
theorem app_zeros (w : World) (B g n c i k : Nat) (l : List Ln) (ty : TypeId) (ho : Ens w B (some ⟨g, 0, none⟩) n c l) (hB : B ≤ w.heap.size) (hi : i ≤ n) (hk : 0 < k) (hg : c < i + k) (hik : i + k ≤ 200000) :
    ∃ (G : Nat) (w' : World) (zs : List Value), (Builtin.append_ #[72, 3] ty #[.slice (some ⟨g, 0, none⟩) i c, .int .i64 (k : Int)]).run Try.prog w = .ok (.slice (some ⟨w.heap.size, 0, none⟩) (i + k) G) w' ∧
      Own w' B 53 3 (some ⟨w.heap.size, 0, none⟩) (i + k) G (lnCs (l.take i) ++ zs) ∧ zs.length = k * 3 ∧ Keeps (fun _ => False) w w' ∧ i + k ≤ G := by
  have hin : (Try.prog.info? 53).map (fun i => (i.zero, i.size, i.bytes)) = some (some (Value.agg #[.string ⟨#[]⟩, .int .u64 0, .int .u64 0]), 3, 32) := by kernel_rfl
  obtain ⟨i0, h1, h2, h3, h4⟩ := info_parts hin
  have hl := Lns.len_en ho
  have hold : (Builtin.firstCells i0.size i (.slice (some ⟨g, 0, none⟩) i c)).run Try.prog w.drew = .ok (lnCs (l.take i)).toArray w.drew := by
    rw [h3]
    exact run_firstCells_some w.drew 3 i ⟨g, 0, none⟩ i c (lnCs (l.take i)) (by rw [lnCs_len, List.length_take]; congr 1; omega) (fun j v hj => by
      rw [Addr.add_lit, Nat.zero_add]
      rw [← lnCs_take, List.getElem?_take] at hj
      split at hj
      · rename_i hlt
        exact (ho.cell j (by have := Nat.mul_le_mul_right 3 hi; omega)).trans hj
      · cases hj)
  have h := Lib.run_append_grow_zeros w 72 3 ty 53 i0 _ .i64 .i64 Try.underlying72 Try.underlying3 h1 h2 (some ⟨g, 0, none⟩) i c (lnCs (l.take i)) hold k hk (by omega) hg (by omega) (by rw [h4]; omega) (by rw [h4]; exact growslice_fits hg (by omega))
  obtain ⟨G, hG⟩ : ∃ G, G = grownCap w (i + k) c 53 := ⟨_, rfl⟩
  have hge : i + k ≤ G := by rw [hG]; exact grownCap_ge w (i + k) c 53
  have hGm : G ≤ maxLen := by rw [hG]; exact grownCap_le_maxLen w (i + k) c 53 (by simp only [maxLen]; omega)
  rw [← hG] at h
  obtain ⟨Z, hZ⟩ : ∃ Z, Z = Builtin.zeroCells (Value.agg #[.string ⟨#[]⟩, .int .u64 0, .int .u64 0]).cells k := ⟨_, rfl⟩
  obtain ⟨Z2, hZ2⟩ : ∃ Z2, Z2 = Builtin.zeroCells (Value.agg #[.string ⟨#[]⟩, .int .u64 0, .int .u64 0]).cells (G - (i + k)) := ⟨_, rfl⟩
  have hz1 : Z.size = k * 3 := by rw [hZ]; exact zeros_en k
  have hz2 : Z2.size = (G - (i + k)) * 3 := by rw [hZ2]; exact zeros_en _
  rw [← hZ, ← hZ2] at h
  have hz3 : Z.toList.length = k * 3 := by rw [Array.length_toList]; exact hz1
  have hcl : (lnCs (l.take i)).length = i * 3 := by rw [lnCs_len, List.length_take]; omega
  have hlen : (lnCs (l.take i) ++ Z.toList).length = (i + k) * 3 := by rw [List.length_append, hcl, hz3]; omega
  refine ⟨G, _, Z.toList, h, ⟨hlen, .inr ⟨w.heap.size, G, _, rfl, hB, heap_alloc_new w.drew _, hge, hGm, ?_, ?_⟩⟩, hz3, ((Keeps.refl _ _).drew).alloc _, hge⟩
  · rw [Array.size_append, Array.size_append, hz1, hz2, List.size_toArray, hcl]
    omega
  · rw [Array.toList_append, Array.toList_append, List.toList_toArray]
    exact List.take_left' hlen
set_option maxRecDepth 100000 in
set_option maxHeartbeats 1000000 in
theorem ins_grow (w : World) (B g n c i : Nat) (l : List Ln) (x : Ln) (gv : Nat) (ho : Ens w B (some ⟨g, 0, none⟩) n c l) (hB : B ≤ w.heap.size) (hv : Blk w gv 53 (lnC x).toArray) (hn : n ≤ 100000) (hi : i < n) (hc : c < n + 1) :
    Calls Try.prog 64 #[.slice (some ⟨g, 0, none⟩) n c, .int .i64 i, .slice (some ⟨gv, 0, none⟩) 1 1] w (InsPost w B (some ⟨g, 0, none⟩) n l i x) := by
  have hnc := Own.le ho
  have HO := hide ho
  have hl := hide (Lns.len_en ho)
  have HV := hide hv
  obtain ⟨k, hk⟩ : ∃ k, n + 1 = i + k := ⟨n + 1 - i, by omega⟩
  obtain ⟨G, w7, zs, hrun, o7, hzs, k7, hge⟩ := app_zeros w B g n c i k l 72 ho hB (by omega) (by omega) (by omega) (by omega)
  rw [← hk] at hrun o7 hge
  have O7 := hide o7
  have K7 := hide k7
  have HZ := hide hzs
  have hs1 := sub_at elemEn g n c .i64 (i : Int) (by omega) (by omega) hnc (by omega)
  have hs2 := sub_cap elemEn g n c .i64 (i : Int) (by omega) (by omega)
  have hs3 := sub_at elemEn w.heap.size (n + 1) G .i64 (i : Int) (by omega) (by omega) hge (by omega)
  have hs4 := sub_at elemEn w.heap.size (n + 1) G .i64 ((i : Int) + 1) (by omega) (by omega) hge (by omega)
  rw [show ((i : Nat) : Int).toNat = i from by omega] at hs1 hs2 hs3
  rw [show ((i : Int) + 1).toNat = i + 1 from by omega] at hs4
  have e1 : decide (c < n + 1) = true := by simp; omega
  have e2 : ((i : Int) == (n : Int)) = false := by simp; omega
  have wn1 : IntKind.i64.wrap ((n : Int) + 1) = (n : Int) + 1 := IntWalk.i64_in _ (by omega)
  have wi1 : IntKind.i64.wrap ((i : Int) + 1) = (i : Int) + 1 := IntWalk.i64_in _ (by omega)
  have wk : IntKind.i64.wrap ((n : Int) + 1 - (i : Int)) = (k : Int) := by rw [IntWalk.i64_in _ (by omega)]; omega
  have HKn := hide hk
  clear ho hv o7 k7 hzs hk
  go_enter Try.func64, Try.ntmps64
  go_upto_region 9 with fail
  have HRun := hide hrun
  have hxl : Hid ((lnCs (l.take i)).length = i * 3) := hide (by rw [lnCs_len, List.length_take]; have := hl.out; omega)
  clear hrun
  go_upto_region 10 with (at_builtin; refine Lib.wpList_append_run w rfl (.tmp 34) (.tmp 39) 72 3 rfl _ _ rfl rfl _ _ HRun.out ?_)
  go_upto_region 11 with ((refine wpList_copyO elemEn rfl (.tmp 43) (.tmp 44) rfl B w.heap.size (n + 1) G _ O7.out i (n + 1 - i) (G - i) rfl w7.heap.size (m := 1) (lnC x) rfl (Blk.rd (HV.out.kept K7.out (fun h => h)) rfl) (lnC_one x) (by omega) (by omega) ?_); intro w8 o8 k8; have O8 := hide o8; have K8 := hide (K7.out.step k8 (fun q hq e => by omega)); clear o8 k8)
  have RB := hide ((HO.out.rd (by omega)).kept K8.out (fun _ _ h => h))
  obtain ⟨A5, hs5, hr5, hi5⟩ := sub_lo elemEn (some ⟨g, 0, none⟩) n c .i64 (i : Int) (by omega) (by omega) hnc
  rw [show ((i : Nat) : Int).toNat = i from by omega] at hs5 hr5
  have hA5 : A5 = some ⟨g, i * 3, none⟩ := by
    have h1 := hs5 w
    rw [hs1 w] at h1
    injection h1 with h1
    injection h1 with h1
    exact h1.symm
  subst hA5
  have RC := hide (hr5 _ _ _ RB.out)
  rw [lnCs_drop] at RC
  have HF : Hid ((lnCs (l.take i) ++ zs).take (i * 3) ++ lnC x ++ (lnCs (l.take i) ++ zs).drop ((i + 1) * 3) = lnCs (l.take i ++ [x]) ++ zs.drop 3) := hide (by
    rw [lnCs_app, lnCs1, List.take_left' hxl.out, show (i + 1) * 3 = i * 3 + 3 by omega, ← List.drop_drop, List.drop_left' hxl.out])
  rw [HF.out] at O8
  have hxl2 : Hid ((lnCs (l.take i ++ [x])).length = (i + 1) * 3) := hide (by rw [lnCs_len, List.length_append, List.length_take]; have := hl.out; simp; omega)
  clear hs5 hr5 hi5 RB HF
  refine wp_region_held_drew (S := fun _ => True) (by kernel_rfl) trivial (fun hHeld => ?_)
  refine wpAnyH_take (i := 0) (v := ?_) rfl (by kernel_rfl) (by kernel_rfl) (by kernel_rfl) (fun _ _ _ h => h) (Or.inl ⟨by first | kernel_rfl | rfl, ?_⟩) (by assumption) ?_; rotate_left; focus (intro w hSw; (try dsimp only at hSw); go_simp; try (with_reducible rfl)); (try simp only [Act.put, List.getElem_toArray, List.getElem_cons_succ, List.getElem_cons_zero, List.setIfInBounds_toArray, List.set_cons_zero, List.set_cons_succ])
  refine wpAnyH_take (i := 1) (v := ?_) rfl (by kernel_rfl) (by kernel_rfl) (by kernel_rfl) (fun _ _ _ h => h) (Or.inl ⟨by first | kernel_rfl | rfl, ?_⟩) (by assumption) ?_; rotate_left; focus (intro w hSw; (try dsimp only at hSw); go_simp; try (with_reducible rfl)); (try simp only [Act.put, List.getElem_toArray, List.getElem_cons_succ, List.getElem_cons_zero, List.setIfInBounds_toArray, List.set_cons_zero, List.set_cons_succ])
  refine wpAnyH_take (i := 2) (v := ?_) rfl (by kernel_rfl) (by kernel_rfl) (by kernel_rfl) (fun _ _ _ h => h) (Or.inl ⟨by first | kernel_rfl | rfl, ?_⟩) (by assumption) ?_; rotate_left; focus (intro w hSw; (try dsimp only at hSw); go_simp; try (with_reducible rfl)); (try simp only [Act.put, List.getElem_toArray, List.getElem_cons_succ, List.getElem_cons_zero, List.setIfInBounds_toArray, List.set_cons_zero, List.set_cons_succ])
  refine wpAnyH_take (i := 3) (v := ?_) rfl (by kernel_rfl) (by kernel_rfl) (by kernel_rfl) (fun _ _ _ h => h) (Or.inl ⟨by first | kernel_rfl | rfl, ?_⟩) (by assumption) ?_; rotate_left; focus (intro w hSw; (try dsimp only at hSw); go_simp; try (with_reducible rfl)); (try simp only [Act.put, List.getElem_toArray, List.getElem_cons_succ, List.getElem_cons_zero, List.setIfInBounds_toArray, List.set_cons_zero, List.set_cons_succ])
  refine wpAnyH_take (i := 4) (v := ?_) rfl (by kernel_rfl) (by kernel_rfl) (by kernel_rfl) (fun _ _ _ h => h) (Or.inl ⟨by first | kernel_rfl | rfl, ?_⟩) (by assumption) ?_; rotate_left; focus (intro w hSw; (try dsimp only at hSw); go_simp; try (with_reducible rfl)); (try simp only [Act.put, List.getElem_toArray, List.getElem_cons_succ, List.getElem_cons_zero, List.setIfInBounds_toArray, List.set_cons_zero, List.set_cons_succ])
  refine wpAnyH_take (i := 5) (v := ?_) rfl (by kernel_rfl) (by kernel_rfl) (by kernel_rfl) (fun _ _ _ h => h) (Or.inl ⟨by first | kernel_rfl | rfl, ?_⟩) (by assumption) ?_; rotate_left; focus (intro w hSw; (try dsimp only at hSw); go_simp; try (with_reducible rfl)); (try simp only [Act.put, List.getElem_toArray, List.getElem_cons_succ, List.getElem_cons_zero, List.setIfInBounds_toArray, List.set_cons_zero, List.set_cons_succ])
  refine wpAnyH_take (i := 6) (v := ?_) rfl (by kernel_rfl) (by kernel_rfl) (by kernel_rfl) (fun _ _ _ h => h) (Or.inl ⟨by first | kernel_rfl | rfl, ?_⟩) (by assumption) ?_; rotate_left; focus (intro w hSw; (try dsimp only at hSw); go_simp; try (with_reducible rfl)); (try simp only [Act.put, List.getElem_toArray, List.getElem_cons_succ, List.getElem_cons_zero, List.setIfInBounds_toArray, List.set_cons_zero, List.set_cons_succ])
  refine wpAnyH_take (i := 7) (v := ?_) rfl (by kernel_rfl) (by kernel_rfl) (by kernel_rfl) (fun _ _ _ h => h) (Or.inl ⟨by first | kernel_rfl | rfl, ?_⟩) (by assumption) ?_; rotate_left; focus (intro w hSw; (try dsimp only at hSw); go_simp; try (with_reducible rfl)); (try simp only [Act.put, List.getElem_toArray, List.getElem_cons_succ, List.getElem_cons_zero, List.setIfInBounds_toArray, List.set_cons_zero, List.set_cons_succ])
  refine wpAnyH_ready (rs := [8]) (by kernel_rfl) (by simp) ?_
  refine AllReadyH.cons rfl (fun K hK => ?_) AllReadyH.nil
  refine step_copyO elemEn (by rfl) (.tmp 50) (.tmp 53) (by rfl) B w.heap.size (n + 1) G _ (show Own w8.drew _ _ _ _ _ _ _ from O8.out) (i + 1) (n - i) (G - (i + 1)) ?hd w8.heap.size (m := n - i) (c2 := c - i) _ ?hs (show Rd w8.drew _ _ _ _ _ from RC.out.more (by have := K8.out.size; omega)) (lnCs_one _) (by omega) (by omega) ?_
  case hd => simp [Act.eval, Act.put]
  case hs => simp [Act.eval, Act.put]
  intro w9 o9 k9
  have O9 := hide o9
  have K9 := hide (K8.out.step (((Keeps.refl (· = w.heap.size) w8).drew).trans k9) (fun q hq e => by omega))
  clear o9 k9
  refine hK.out _ _ trivial (fun _ => ?_)
  clear hK K
  (try simp only [Act.put, List.getElem_toArray, List.getElem_cons_succ, List.getElem_cons_zero, List.setIfInBounds_toArray, List.set_cons_zero, List.set_cons_succ])
  refine wpAnyH_done (by kernel_rfl) ?_ _
  (try simp only [Act.put, List.getElem_toArray, List.getElem_cons_succ, List.getElem_cons_zero, List.setIfInBounds_toArray, List.set_cons_zero, List.set_cons_succ])
  go_wp2_with fail
  go_ret
  refine ⟨some ⟨w.heap.size, 0, none⟩, G, rfl, ?_, K9.out.weak (fun _ _ h => h.elim), fun q hq => .inr (by have := (inB_some _ _ _).1 hq; omega)⟩
  have hz : zs.drop (3 + (n - i) * 3) = [] := List.drop_of_length_le (by rw [HZ.out]; have := HKn.out; omega)
  have h1 := O9.out
  rw [List.take_left' hxl2.out, show (i + 1 + (n - i)) * 3 = (i + 1) * 3 + (n - i) * 3 by omega, ← List.drop_drop, List.drop_left' hxl2.out, List.drop_drop, hz, List.append_nil, ← lnCs_app, List.append_assoc] at h1
  exact h1
end Go.Proofs.Ytmbgnekilgobaaa
