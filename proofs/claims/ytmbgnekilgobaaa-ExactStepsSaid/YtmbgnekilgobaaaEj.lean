
/-
  slices.Delete of one entry. No conditions beyond those of the statement.
-/
import Derived.Test.YtmbgnekilgobaaaEg
set_option linter.unusedVariables false
set_option linter.unusedSimpArgs false
namespace Go.Proofs.Ytmbgnekilgobaaa
open Go.RowKit Go.ChangeShapes Go.WideShapes
section
variable {P : Program}
/-- append where there is room: the block stays -/
theorem run_appR {t e : TypeId} {sz bytes : Nat} (E : ElemOf P t e sz bytes) (ty : TypeId) (w : World) (base g n c : Nat) (xs : List Value) (hown : Own w base e sz (some ⟨g, 0, none⟩) n c xs)
    (B : Nat) (A2 : Option Addr) (m c2 : Nat) (news : List Value) (hr : Rd w B A2 sz m news) (h1 : ∀ u ∈ news, u.oneCell' = true) (hroom : n + m ≤ c) :
    ∃ w', (Builtin.append_ #[t, t] ty #[.slice (some ⟨g, 0, none⟩) n c, .slice A2 m c2]).run P w = .ok (.slice (some ⟨g, 0, none⟩) (n + m) c) w' ∧ Own w' base e sz (some ⟨g, 0, none⟩) (n + m) c (xs ++ news) ∧ Keeps (· = g) w w' := by
  obtain ⟨ht, ⟨i, z, hi, hz, hsize, hby, hzs⟩, hpos⟩ := E
  have hxl := hown.len
  have hnl := hr.1
  have hle : (n + m) * sz ≤ c * sz := Nat.mul_le_mul_right _ hroom
  rw [Nat.add_mul] at hle
  have hfc : (Builtin.firstCells sz m (.slice A2 m c2)).run P w = .ok news.toArray w := by
    rcases Nat.eq_zero_or_pos m with h0 | h0
    · subst h0
      obtain rfl : news = [] := List.eq_nil_of_length_eq_zero (by simpa using hnl)
      cases A2 with
      | none => exact run_firstCells_none _ _ _ _ _
      | some ad => exact run_firstCells_some (P := P) w sz 0 ad 0 c2 [] (by simp) (by simp)
    · obtain ⟨b, off, rfl, hb, hc⟩ := hr.2 h0
      exact run_firstCells_some (P := P) w sz m ⟨b, off, none⟩ m c2 news hnl (fun j u hu => by rw [add_plain]; exact hc j u hu)
  rcases hown.2 with ⟨hv, _⟩ | ⟨g', cap, cur, hv, hbg, hg, hnc, hcm, hcs, htake⟩
  · cases hv
  · injection hv with h3 h4 h5
    injection h3 with h3
    injection h3 with h3
    subst h3 h5
    have hst := run_storeCells_at P g (n * sz) e news 0 cur w hg (by rw [hcs, hnl]; omega) h1
    simp only [Nat.add_zero] at hst
    have hst' : (storeCells ((⟨g, 0, none⟩ : Addr).add (n * sz)) news).run P w = .ok () (w.setRow g (cur.toList.take (n * sz) ++ news ++ cur.toList.drop (n * sz + news.length)).toArray) := by
      rw [Addr.add_lit, Nat.zero_add]; exact hst
    refine ⟨w.setRow g (cur.toList.take (n * sz) ++ news ++ cur.toList.drop (n * sz + news.length)).toArray, ?_, ⟨?_, .inr ⟨g, c, _, rfl, hbg, setRow_heap w g cur _ e _ hg, hroom, hcm, ?_, ?_⟩⟩, ⟨rfl, rfl, rfl, by simp [World.setRow], fun k _ hk => setRow_other w g k _ (fun e => hk e)⟩⟩
    · simp [Builtin.append_, run_underlying ht, Builtin.lenOf, sizeOf, typeInfo, hi, hsize, hroom, hfc, hst']
    · rw [List.length_append, hxl, hnl, Nat.add_mul]
    · simp only [List.size_toArray, List.length_append, List.length_take, List.length_drop, Array.length_toList, hcs, hnl]
      omega
    · rw [htake, List.toList_toArray]
      exact List.take_left' (by rw [List.length_append, hxl, hnl, Nat.add_mul])
theorem step_appR {ops : Array Oper} {o : Oper} {a : Act} {w : World} {K : Act → World → Prop} {Q : Exit → Act → World → Prop} {F : Prop} {t e : TypeId} {sz bytes : Nat} (E : ElemOf P t e sz bytes) (hgd : o.guard = none) (d s : Operand)
    (ho : o.op = .call { callee := .builtin .append, args := #[d, s], argTypes := #[t, t] }) (base g n c : Nat) (xs : List Value) (hd : a.eval d = .slice (some ⟨g, 0, none⟩) n c) (hown : Own w base e sz (some ⟨g, 0, none⟩) n c xs)
    (B : Nat) {A2 : Option Addr} {m c2 : Nat} (news : List Value) (hs : a.eval s = .slice A2 m c2) (hr : Rd w B A2 sz m news) (h1 : ∀ u ∈ news, u.oneCell' = true) (q : Nat) (hq : n + m = q) (hroom : q ≤ c)
    (h : ∀ w', Own w' base e sz (some ⟨g, 0, none⟩) q c (xs ++ news) → Keeps (· = g) w w' → K (a.put o.dst (.slice (some ⟨g, 0, none⟩) q c)) w') :
    if Region.wanted o (yielded ops a.tmps) = true then Oper.wp P o a w K Q else F := by
  subst hq
  have hw : Region.wanted o (yielded ops a.tmps) = true := by simp [Region.wanted, hgd]
  rw [if_pos hw]
  obtain ⟨w', hrun, h2, h3⟩ := run_appR (P := P) E o.type w base g n c xs hown B A2 m c2 news hr h1 hroom
  unfold Oper.wp execOp
  simp only [ho, resolve, invoke, builtin, Sem.run_bind, Sem.run_pure, Result.andThen_ok, List.map_toArray, List.map_cons, List.map_nil, hd, hs, hrun]
  exact h w' h2 h3
/-- the first elements alone -/
theorem Own.cut {w : World} {B g n c sz : Nat} {e : TypeId} {xs : List Value} (h : Own w B e sz (some ⟨g, 0, none⟩) n c xs) (i : Nat) (hi : i ≤ n) : Own w B e sz (some ⟨g, 0, none⟩) i c (xs.take (i * sz)) := by
  have hxl := Own.len h
  have hle : i * sz ≤ n * sz := Nat.mul_le_mul_right _ hi
  rcases h.2 with ⟨hv, _⟩ | ⟨g', cap, cur, hv, hbg, hg, hnc, hcm, hcs, htake⟩
  · cases hv
  · injection hv with h1 h2 h3
    injection h1 with h1
    injection h1 with h1
    subst h1 h3
    exact ⟨by rw [List.length_take, hxl]; omega, .inr ⟨g, c, cur, rfl, hbg, hg, by omega, hcm, hcs, by rw [← htake, List.take_take, Nat.min_eq_left hle]⟩⟩
/-- clear of elements behind the slice's own -/
theorem run_clearO {t e : TypeId} {i : TypeInfo} {z : Value} (ty : TypeId) (ht : P.underlying t = some (.slice e)) (hi : P.info? e = some i) (hz : i.zero = some z) (h1 : ∀ u ∈ z.cells, u.oneCell' = true)
    (w : World) (base g n c : Nat) (xs : List Value) (hown : Own w base e z.cells.size (some ⟨g, 0, none⟩) n c xs) (o m c2 : Nat) (hm : 0 < m) (ho : n ≤ o) (hoc : o + m ≤ c) :
    ∃ w', (Builtin.clear_ #[t] ty #[.slice (some ⟨g, o * z.cells.size, none⟩) m c2]).run P w = .ok (.tuple #[]) w' ∧ Own w' base e z.cells.size (some ⟨g, 0, none⟩) n c xs ∧ Keeps (· = g) w w' := by
  obtain ⟨zs, hzs⟩ : ∃ zs, zs = (Builtin.zeroCells z.cells m).toList := ⟨_, rfl⟩
  have hzl : zs.length = m * z.cells.size := by rw [hzs, Array.length_toList, size_zeroCells]
  have hz1 : ∀ u ∈ zs, u.oneCell' = true := by
    intro u hu
    rw [hzs] at hu
    unfold Builtin.zeroCells at hu
    rw [Array.toList_map, List.mem_map] at hu
    obtain ⟨q, hq, rfl⟩ := hu
    have hq2 : q < m * z.cells.size := by simpa using hq
    have hp : 0 < z.cells.size := by
      rcases Nat.eq_zero_or_pos z.cells.size with h | h
      · rw [h, Nat.mul_zero] at hq2; exact absurd hq2 (Nat.not_lt_zero _)
      · exact h
    have hlt := Nat.mod_lt q hp
    rw [getElem!_pos z.cells _ hlt]
    exact h1 _ (Array.getElem_mem _)
  have hle : (o + m) * z.cells.size ≤ c * z.cells.size := Nat.mul_le_mul_right _ hoc
  have hle2 : n * z.cells.size ≤ o * z.cells.size := Nat.mul_le_mul_right _ ho
  rw [Nat.add_mul] at hle
  have hxl := hown.len
  rcases hown.2 with ⟨hv, _⟩ | ⟨g', cap, cur, hv, hbg, hg, hnc, hcm, hcs, htake⟩
  · cases hv
  · injection hv with h3 h4 h5
    injection h3 with h3
    injection h3 with h3
    subst h3 h5
    have hst := run_storeCells_at P g (o * z.cells.size) e zs 0 cur w hg (by rw [hcs, hzl]; omega) hz1
    simp only [Nat.add_zero] at hst
    refine ⟨w.setRow g (cur.toList.take (o * z.cells.size) ++ zs ++ cur.toList.drop (o * z.cells.size + zs.length)).toArray, ?_, ⟨hxl, .inr ⟨g, c, _, rfl, hbg, setRow_heap w g cur _ e _ hg, hnc, hcm, ?_, ?_⟩⟩, ⟨rfl, rfl, rfl, by simp [World.setRow], fun k _ hk => setRow_other w g k _ (fun e => hk e)⟩⟩
    · obtain ⟨m', rfl⟩ : ∃ m', m = m' + 1 := ⟨m - 1, by omega⟩
      rw [hzs] at hst ⊢
      simp [Builtin.clear_, run_underlying ht, zeroValue, typeInfo, hi, hz, hst]
    · simp only [List.size_toArray, List.length_append, List.length_take, List.length_drop, Array.length_toList, hcs, hzl]
      omega
    · rw [List.toList_toArray, List.append_assoc, List.take_append_of_le_length (by rw [List.length_take, Array.length_toList, hcs]; omega), List.take_take, Nat.min_eq_left hle2]
      exact htake
end
/-- 's[x:y]' up to the capacity -/
theorem sub_mid {P : Program} {t e : TypeId} {sz bytes : Nat} (E : ElemOf P t e sz bytes) (g n c : Nat) (k k' : IntKind) (x y : Int) (h0 : 0 ≤ x) (h1 : x ≤ y) (h2 : y ≤ c) (hxc : x < c) :
    ∀ w, (Instr.sliceAt t (.slice (some ⟨g, 0, none⟩) n c) (some (.int k x)) (some (.int k' y)) none).run P w = .ok (.slice (some ⟨g, x.toNat * sz, none⟩) (y.toNat - x.toNat) (c - x.toNat)) w := by
  obtain ⟨ht, ⟨i, z, hi, hz, hsize, hby, hzs⟩, hpos⟩ := E
  have hel : P.elem t = e := by simp [Program.elem, ht]
  intro w
  have hne : ¬ c = x.toNat := by omega
  rw [run_sliceAt_slice _ _ _ _ _ _ (by rw [hel]; exact ht), run_slice_lh _ _ _ _ _ (by rw [hel]; exact ht) _ _ _ _ h0 h1 (by omega)]
  simp [sizeOf, typeInfo, hel, hi, hsize, sliced, hne, Addr.add]
  intro h; omega
set_option maxRecDepth 100000 in
set_option maxHeartbeats 1000000 in
theorem del_any (w : World) (B g n c i : Nat) (l : List Ln) (ho : Ens w B (some ⟨g, 0, none⟩) n c l) (hn : n ≤ 100000) (hi : i < n) :
    Calls Try.prog 67 #[.slice (some ⟨g, 0, none⟩) n c, .int .i64 i, .int .i64 ((i : Int) + 1)] w fun e w' => e = .returned (.slice (some ⟨g, 0, none⟩) (n - 1) c) ∧ Ens w' B (some ⟨g, 0, none⟩) (n - 1) c (l.take i ++ l.drop (i + 1)) ∧ Keeps (· = g) w w' := by
  have hnc := Own.le ho
  have HO := hide ho
  have hl := hide (Lns.len_en ho)
  obtain ⟨m, hm⟩ : ∃ m, n = i + 1 + m := ⟨n - (i + 1), by omega⟩
  obtain ⟨q, hq⟩ : ∃ q, i + m = q := ⟨_, rfl⟩
  have hs2 := sub_cap elemEn g n c .i64 (i : Int) (by omega) (by omega)
  have hs5 := sub_mid elemEn g q c .i64 .i64 (q : Int) (n : Int) (by omega) (by omega) (by omega) (by omega)
  rw [show ((i : Nat) : Int).toNat = i from by omega] at hs2
  rw [show ((q : Nat) : Int).toNat = q from by omega, show ((n : Nat) : Int).toNat - q = 1 from by omega] at hs5
  obtain ⟨D5, hs1, hr1, hi1⟩ := sub_lo elemEn (some ⟨g, 0, none⟩) n c .i64 ((i : Int) + 1) (by omega) (by omega) hnc
  rw [show ((i : Int) + 1).toNat = i + 1 from by omega, show n - (i + 1) = m from by omega] at hs1 hr1
  have e2 : ((i : Int) == (i : Int) + 1) = false := by simp; omega
  have wi1 : IntKind.i64.wrap ((i : Int) + 1) = (i : Int) + 1 := IntWalk.i64_in _ (by omega)
  have RC := hide (hr1 _ _ _ (ho.rd (by omega)))
  rw [lnCs_drop] at RC
  have HM := hide hm
  have HTk : Hid (Ens w B (some ⟨g, 0, none⟩) i c (l.take i)) := hide (by unfold Ens; rw [← lnCs_take]; exact ho.cut i (by omega))
  have hin : (Try.prog.info? 53).map (fun i => (i.zero, i.size, i.bytes)) = some (some (Value.agg #[.string ⟨#[]⟩, .int .u64 0, .int .u64 0]), 3, 32) := by kernel_rfl
  obtain ⟨i0, hi0, hz0, _, _⟩ := info_parts hin
  have him : q + 1 ≤ c ∧ q < n := by omega
  have HQ := hide hq
  clear ho hr1 hi1 hm hin hq
  go_enter Try.func67, Try.ntmps67
  go_upto_region 5 with fail
  refine wp_region_held_drew (S := fun _ => True) (by kernel_rfl) trivial (fun hHeld => ?_)
  refine wpAnyH_take (i := 0) (v := ?_) rfl (by kernel_rfl) (by kernel_rfl) (by kernel_rfl) (fun _ _ _ h => h) (Or.inl ⟨by first | kernel_rfl | rfl, ?_⟩) (by assumption) ?_; rotate_left; focus (intro w hSw; (try dsimp only at hSw); go_simp; try (with_reducible rfl)); (try simp only [Act.put, List.getElem_toArray, List.getElem_cons_succ, List.getElem_cons_zero, List.setIfInBounds_toArray, List.set_cons_zero, List.set_cons_succ])
  refine wpAnyH_take (i := 1) (v := ?_) rfl (by kernel_rfl) (by kernel_rfl) (by kernel_rfl) (fun _ _ _ h => h) (Or.inl ⟨by first | kernel_rfl | rfl, ?_⟩) (by assumption) ?_; rotate_left; focus (intro w hSw; (try dsimp only at hSw); go_simp; try (with_reducible rfl)); (try simp only [Act.put, List.getElem_toArray, List.getElem_cons_succ, List.getElem_cons_zero, List.setIfInBounds_toArray, List.set_cons_zero, List.set_cons_succ])
  refine wpAnyH_take (i := 2) (v := ?_) rfl (by kernel_rfl) (by kernel_rfl) (by kernel_rfl) (fun _ _ _ h => h) (Or.inl ⟨by first | kernel_rfl | rfl, ?_⟩) (by assumption) ?_; rotate_left; focus (intro w hSw; (try dsimp only at hSw); go_simp; try (with_reducible rfl)); (try simp only [Act.put, List.getElem_toArray, List.getElem_cons_succ, List.getElem_cons_zero, List.setIfInBounds_toArray, List.set_cons_zero, List.set_cons_succ])
  refine wpAnyH_take (i := 3) (v := ?_) rfl (by kernel_rfl) (by kernel_rfl) (by kernel_rfl) (fun _ _ _ h => h) (Or.inl ⟨by first | kernel_rfl | rfl, ?_⟩) (by assumption) ?_; rotate_left; focus (intro w hSw; (try dsimp only at hSw); go_simp; try (with_reducible rfl)); (try simp only [Act.put, List.getElem_toArray, List.getElem_cons_succ, List.getElem_cons_zero, List.setIfInBounds_toArray, List.set_cons_zero, List.set_cons_succ])
  refine wpAnyH_take (i := 4) (v := ?_) rfl (by kernel_rfl) (by kernel_rfl) (by kernel_rfl) (fun _ _ _ h => h) (Or.inl ⟨by first | kernel_rfl | rfl, ?_⟩) (by assumption) ?_; rotate_left; focus (intro w hSw; (try dsimp only at hSw); go_simp; try (with_reducible rfl)); (try simp only [Act.put, List.getElem_toArray, List.getElem_cons_succ, List.getElem_cons_zero, List.setIfInBounds_toArray, List.set_cons_zero, List.set_cons_succ])
  refine wpAnyH_take (i := 5) (v := ?_) rfl (by kernel_rfl) (by kernel_rfl) (by kernel_rfl) (fun _ _ _ h => h) (Or.inl ⟨by first | kernel_rfl | rfl, ?_⟩) (by assumption) ?_; rotate_left; focus (intro w hSw; (try dsimp only at hSw); go_simp; try (with_reducible rfl)); (try simp only [Act.put, List.getElem_toArray, List.getElem_cons_succ, List.getElem_cons_zero, List.setIfInBounds_toArray, List.set_cons_zero, List.set_cons_succ])
  refine wpAnyH_ready (rs := [6]) (by kernel_rfl) (by simp) ?_
  refine AllReadyH.cons rfl (fun K hK => ?_) AllReadyH.nil
  refine step_appR elemEn (by rfl) (.tmp 22) (.tmp 25) (by rfl) B g i c (lnCs (l.take i)) ?hd (HTk.out.drew) w.heap.size (m := m) (c2 := c - (i + 1)) _ ?hs (show Rd w.drew _ _ _ _ _ from RC.out) (lnCs_one _) q HQ.out (by omega) ?_
  case hd => simp [Act.eval, Act.put]
  case hs => simp [Act.eval, Act.put]
  intro w8 o8 k8
  rw [← lnCs_app] at o8
  obtain ⟨w9, hcl, o9, k9⟩ := run_clearO (P := Try.prog) (t := 72) (z := .agg #[.string ⟨#[]⟩, .int .u64 0, .int .u64 0]) 0 Try.underlying72 hi0 hz0 (by decide) w8 B g q c _ o8 q 1 (c - q) (by omega) (Nat.le_refl _) (by omega)
  have hcl2 : (Builtin.clear_ #[72] 0 #[.slice (some ⟨g, q * 3, none⟩) 1 (c - q)]).run Try.prog w8 = .ok (.tuple #[]) w9 := hcl
  have O9 : Hid (Ens w9 B (some ⟨g, 0, none⟩) q c (l.take i ++ l.drop (i + 1))) := hide o9
  have K9 := hide (((Keeps.refl (· = g) w).drew.trans k8).trans k9)
  clear o8 k8 o9 k9 hcl
  refine hK.out _ _ trivial (fun _ => ?_)
  clear hK K
  (try simp only [Act.put, List.getElem_toArray, List.getElem_cons_succ, List.getElem_cons_zero, List.setIfInBounds_toArray, List.set_cons_zero, List.set_cons_succ])
  refine wpAnyH_take (i := 7) (v := ?_) rfl (by kernel_rfl) (by kernel_rfl) (by kernel_rfl) (fun _ _ _ h => h) (Or.inl ⟨by first | kernel_rfl | rfl, ?_⟩) (by assumption) ?_; rotate_left; focus (intro w hSw; (try dsimp only at hSw); go_simp; try (with_reducible rfl)); (try simp only [Act.put, List.getElem_toArray, List.getElem_cons_succ, List.getElem_cons_zero, List.setIfInBounds_toArray, List.set_cons_zero, List.set_cons_succ])
  refine wpAnyH_done (by kernel_rfl) ?_ _
  (try simp only [Act.put, List.getElem_toArray, List.getElem_cons_succ, List.getElem_cons_zero, List.setIfInBounds_toArray, List.set_cons_zero, List.set_cons_succ])
  go_wp2_with fail
  go_ret
  have hqn : q = n - 1 := by have h1 := HM.out; have h2 := HQ.out; clear wi1; omega
  rw [← hqn]
  exact ⟨rfl, O9.out, K9.out⟩
end Go.Proofs.Ytmbgnekilgobaaa
