/-
  The reference's check of a summary by its contract: the same error. No conditions beyond those of the statement.
-/
import Derived.Test.YtaiopdipldaimaaYw
set_option linter.unusedVariables false
set_option linter.unusedSimpArgs false
namespace Go.Proofs.Ytaiopdipldaimaa
open Go.RowKit Cfp enc21
theorem accE_false0 : ∀ (l : List Ln) (a : Int × Bool), (a.2 = false → a.1 = 18446744073709551615) → U a.1 → (∀ x ∈ l, U x.lo) →
    (l.foldl (fun a x => (Sat.add a.1 x.lo, a.2 && Sat.addOk a.1 x.lo)) a).2 = false → (l.foldl (fun a x => (Sat.add a.1 x.lo, a.2 && Sat.addOk a.1 x.lo)) a).1 = 18446744073709551615
  | [], a, h, _, _, he => h he
  | x :: l, a, h, hU, hl, he => by
    have hx := hl x (by simp)
    refine accE_false0 l _ (fun h1 => ?_) (Sat.add_bd _ _ hU.1 hx.1) (fun y hy => hl y (by simp [hy])) he
    by_cases hs : a.1 + x.lo ≤ 18446744073709551615
    · have ha := Sat.add_yes hs
      simp only [ha.2, Bool.and_true] at h1
      have := h h1
      show Sat.add a.1 x.lo = _
      rw [ha.1]; have := hx.1; omega
    · exact (Sat.add_no hs).1
theorem accE_false {l : List Ln} (hl : ∀ x ∈ l, U x.lo) (h : (accE l).2 = false) : (accE l).1 = 18446744073709551615 :=
  accE_false0 l _ (by simp) (show U 0 from ⟨by omega, by omega⟩) hl h
set_option maxRecDepth 100000 in
set_option maxHeartbeats 1000000 in
theorem rcheck_any21 (w : World) (B : Nat) (c : Cfg) (C T : Option Addr) (n0 k0 q j : Nat) (tot un : Int) (A R : Option Addr) (n cA m cR : Nat) (l : List Ln) (F : RowsF) (h : SmIn w B A n l R m F) (hB : B ≤ w.heap.size) (ht : U tot) :
    Calls Try.prog 39 #[Value.agg #[.int .i64 c.length, .int .i64 c.lateness, .int .i64 c.windows, .int .i64 c.shards, .int .i64 c.spread, .int .i64 c.queue, .int .i64 c.mode, .int .i64 c.slots, .int .i64 c.exact_, .int .u64 c.promote, .int .i64 c.depth, .int .i64 c.width, .int .i64 c.top, .int .i64 c.key, .slice C n0 k0, .slice T q j, .int .u64 c.seed], smV tot A n cA un R m cR] w fun e w' => e = .returned (.int .i64 (checkE c.depth c.width tot un l (Cmp.rowsL F m))) ∧ Keeps (fun _ => False) w w' := by
  obtain ⟨w2, hw2⟩ : ∃ w2, w2 = (w.alloc (.cells #[.int .i64 c.length, .int .i64 c.lateness, .int .i64 c.windows, .int .i64 c.shards, .int .i64 c.spread, .int .i64 c.queue, .int .i64 c.mode, .int .i64 c.slots, .int .i64 c.exact_, .int .u64 c.promote, .int .i64 c.depth, .int .i64 c.width, .int .i64 c.top, .int .i64 c.key, .slice C n0 k0, .slice T q j, .int .u64 c.seed] 51)).alloc (.cells (smC tot A n cA un R m cR) 45) := ⟨_, rfl⟩
  have k2 : Keeps (fun _ => False) w w2 := by rw [hw2]; exact ((Keeps.refl _ _).alloc _).alloc _
  have b2 : Blk w2 w.heap.size 51 #[.int .i64 c.length, .int .i64 c.lateness, .int .i64 c.windows, .int .i64 c.shards, .int .i64 c.spread, .int .i64 c.queue, .int .i64 c.mode, .int .i64 c.slots, .int .i64 c.exact_, .int .u64 c.promote, .int .i64 c.depth, .int .i64 c.width, .int .i64 c.top, .int .i64 c.key, .slice C n0 k0, .slice T q j, .int .u64 c.seed] := by rw [hw2]; exact (Blk.new _ _ _).alloc _
  have b3 : Blk w2 (w.heap.size + 1) 45 (smC tot A n cA un R m cR) := by rw [hw2]; exact Blk.new_at _ _ _ _ (by simp)
  have h2 := h.kept k2 (fun _ _ h => h)
  have s0 : w2.cell? ⟨w.heap.size + 1, 0, none⟩ = some (.int .u64 tot) := b3.cell 0
  have s1 : w2.cell? ⟨w.heap.size + 1, 1, none⟩ = some (.slice A n cA) := b3.cell 1
  have s2 : w2.cell? ⟨w.heap.size + 1, 2, none⟩ = some (.int .u64 un) := b3.cell 2
  have B2 := hide b2
  have B3 := hide b3
  obtain ⟨rv, hrv⟩ : ∃ v, v = checkE c.depth c.width tot un l (Cmp.rowsL F m) := ⟨_, rfl⟩
  rw [← hrv]
  have HRV := hide hrv
  have HH := hide h2
  have K2 := hide k2
  have HW2 := hide hw2
  have hn1 := h.n1
  have hm1 := h.m1
  have HLN := hide h.len
  clear hrv hw2 k2 b2 b3 h2 h
  rcases e1 : decide (9223372036854775808 < tot) with _ | _
  rotate_left
  · have HV : Hid (rv = 1) := hide (by rw [HRV.out]; unfold checkE; rw [if_pos (.inl (by simpa using e1))])
    clear HRV
    go_enter Try.func39, Try.ntmps39
    go_upto_region 1 with fail
    rw [← HW2.out]
    clear HW2
    generalize hgs : w.heap.size = gs at *
    go_wp2_with fail
    go_ret
    exact ⟨ret_int HV.out.symm, K2.out⟩
  rcases e2 : decide (tot < un) with _ | _
  rotate_left
  · have HV : Hid (rv = 1) := hide (by rw [HRV.out]; unfold checkE; rw [if_pos (.inr (by simpa using e2))])
    clear HRV
    go_enter Try.func39, Try.ntmps39
    go_upto_region 1 with fail
    rw [← HW2.out]
    clear HW2
    generalize hgs : w.heap.size = gs at *
    go_wp2_with fail
    go_ret
    exact ⟨ret_int HV.out.symm, K2.out⟩
  by_cases h96 : 96 < n
  · have HV : Hid (rv = 7) := hide (by rw [HRV.out]; unfold checkE; rw [if_neg (by simp at e1 e2; omega), if_pos (by rw [HLN.out]; exact h96)])
    have e3 : (96 : Int) < (n : Int) := by omega
    clear HRV
    go_enter Try.func39, Try.ntmps39
    go_upto_region 1 with fail
    rw [← HW2.out]
    clear HW2
    generalize hgs : w.heap.size = gs at *
    go_wp2_with fail
    go_ret
    exact ⟨ret_int HV.out.symm, K2.out⟩
  have HV : Hid (rv = if scanE tot l l 0 = 0 then (if (accE l).2 = false ∨ tot < (accE l).1 then 12 else rowsE c.depth c.width tot (Cmp.rowsL F m)) else scanE tot l l 0) := hide (by rw [HRV.out]; unfold checkE; rw [if_neg (by simp at e1 e2; omega), if_neg (by rw [HLN.out]; exact h96)])
  have e3 : ¬ ((96 : Int) < (n : Int)) := by omega
  have htm : tot ≤ 9223372036854775808 := by simpa using e1
  clear HRV h96
  go_enter Try.func39, Try.ntmps39
  go_upto_region 1 with fail
  rw [← HW2.out]
  clear HW2
  generalize hgs : w.heap.size = gs at *
  go_wp2_with fail
  trace "LOOP"
  refine Code.wp_mono ?_ (rcloop w2 B (gs + 1) tot un A R n cA m cR l F HH.out (by have := K2.out.size; omega) ht B3.out _ _ _ _ _ _ _ _ _ _ _ _ _ _ _ _ _ _ _ _ _ _ _ _ _ _ _ _ _ _ _ _ _ _ _ _ _ _ _ _ _ _ _ _ _ _ _ _ _ _ _ _ _ _ _ _ _ _ _ _ _ _ _ _ _ _ _ _ _ _ _ _ _ _ _ _ _ _ _ _ _ _ _ _ _ _ _ _ _ _ _ _ _ _ _ _ _ _ _ _ _ _ _ _ _ _ _ _ _ _ _ _ _ _ _ _ _ _ _ _ _ _)
  intro e a' w3 hex
  cases e <;> (first | exact hex.elim | skip)
  rotate_left
  · obtain ⟨⟨ev, ⟨he0, hes⟩, ⟨u5, u6, u7, u31, u32, u33, u34, u35, u36, u37, u38, u39, u40, u41, u42, u43, u44, u45, u46, u47, u48, u49, u50, u51, u52, u53, u54, u55, u56, u57, u58, u59, u60, u61, u62, u63, u64, u65, u66, u67, u68, u69, u70, u71, u72, u73, u74, u75, u76, u77, u78, rfl⟩⟩, k3⟩ := hex
    have HR := hide (show rv = ev by rw [HV.out, hes, if_neg he0])
    have K3 := hide (K2.out.trans k3)
    clear he0 hes k3
    dsimp only
    go_wp2_with fail
    go_ret
    exact ⟨ret_int HR.out.symm, K3.out⟩
  obtain ⟨rfl, hs0, k3, ⟨u4, u6, u7, u31, u32, u33, u34, u35, u36, u37, u38, u39, u40, u41, u42, u43, u44, u45, u46, u47, u48, u49, u50, u51, u52, u53, u54, u55, u56, u57, u58, u59, u60, u61, u62, u63, u64, u65, u66, u67, u68, u69, u70, u71, u72, u73, u74, u75, u76, u77, u78, rfl⟩⟩ := hex
  have HV2 : Hid (rv = if tot < (accE l).1 then 12 else rowsE c.depth c.width tot (Cmp.rowsL F m)) := hide (by
    rw [HV.out, if_pos hs0]
    by_cases hf : (accE l).2 = false
    · have := accE_false (fun x hx => (HH.out.num x hx).1) hf
      rw [if_pos (.inl hf), if_pos (by omega)]
    · by_cases hlt : tot < (accE l).1
      · rw [if_pos (.inr hlt), if_pos hlt]
      · rw [if_neg (by rintro (h | h); exact hf h; exact hlt h), if_neg hlt])
  obtain ⟨ow, how⟩ : ∃ ow, ow = (accE l).1 := ⟨_, rfl⟩
  rw [← how] at HV2 ⊢
  have K3 := hide (K2.out.trans k3)
  have b3r := B3.out.kept k3 (fun h => h)
  have b2r := B2.out.kept k3 (fun h => h)
  have t0 : w3.cell? ⟨gs + 1, 0, none⟩ = some (.int .u64 tot) := b3r.cell 0
  have t3 : w3.cell? ⟨gs + 1, 3, none⟩ = some (.slice R m cR) := b3r.cell 3
  have d10 : w3.cell? ⟨gs, 10, none⟩ = some (.int .i64 c.depth) := b2r.cell 10
  have D11 := hide (show w3.cell? ⟨gs, 11, none⟩ = some (.int .i64 c.width) from b2r.cell 11)
  have T0 := hide t0
  have T3 := hide t3
  have HH3 := hide (HH.out.kept k3 (fun _ _ h => h))
  clear hs0 how k3 b3r b2r HV HH s0 s1 s2 K2
  dsimp only
  rcases e5 : decide (tot < ow) with _ | _
  rotate_left
  · go_wp2_with fail
    go_ret
    exact ⟨ret_int (by rw [HV2.out, if_pos (by simpa using e5)]), K3.out⟩
  have HV3 : Hid (rv = rowsE c.depth c.width tot (Cmp.rowsL F m)) := hide (by rw [HV2.out, if_neg (by simpa using e5)])
  have HML := hide (show (Cmp.rowsL F m).length = m from Cmp.rowsL_len F m)
  clear HV2
  by_cases hq : 0 < m ∧ (m : Int) ≠ c.depth
  · have HR := hide (show rv = 3 by rw [HV3.out]; unfold rowsE; rw [HML.out, if_neg (by omega), if_pos hq.2])
    have g1 : decide (0 < m) = true := by simp [hq.1]
    have g2 : ((m : Int) != c.depth) = true := by simp [hq.2]
    clear hq
    go_wp2_with fail
    go_ret
    exact ⟨ret_int HR.out.symm, K3.out⟩
  have HV4 : Hid (rv = if (Cmp.rowsL F m).any (fun r => (r.length : Int) != c.width) = true then 3 else if (Cmp.rowsL F m).any (fun r => r.any (fun z => decide (tot < z))) = true then 1 else 0) := hide (by
    rw [HV3.out]; unfold rowsE; rw [HML.out]
    by_cases h0 : m = 0
    · subst h0; simp [Cmp.rowsL]
    · rw [if_neg h0, if_neg (by omega)])
  have HLn : Hid (∀ i, i < m → (F i).2.2.2.length = (F i).2.1) := hide (fun i hi => by have := (HH3.out.rrd i hi).1.1; simpa using this)
  obtain ⟨wd, hwd⟩ : ∃ wd, wd = c.width := ⟨_, rfl⟩
  rw [← hwd] at HV4 D11
  clear HV3 hwd
  have hq' : Hid ((decide (0 < m) = false) ∨ (decide (0 < m) = true ∧ ((m : Int) != c.depth) = false)) := hide (by
    by_cases h0 : m = 0
    · left; simp [h0]
    · right; refine ⟨by simp; omega, ?_⟩; simp; omega)
  clear hq
  rcases hq'.out with g1 | ⟨g1, g2⟩
  all_goals
    go_wp2_with fail
    trace "LOOPA"
    go_loopw [98] (fun iv wr => ∃ i : Nat, i ≤ m ∧ iv = .int .i64 i ∧ Hid (∀ j, j < i → ((F j).2.1 : Int) = wd) ∧ Hid (Keeps (fun _ => False) w3 wr)) (fun iv _ => m - (intOf iv).toNat)
    case atStart => exact ⟨0, by omega, rfl, hide (fun j h => by omega), hide (Keeps.refl _ _)⟩
    case round =>
      obtain ⟨i, hi, rfl, HJ, KR⟩ := hrel
      by_cases hlt : i < m
      · have HLT : Hid (i + 1 ≤ m) := hlt
        obtain ⟨b, off, rfl, hbB, hc⟩ := (HH3.out.rows.kept KR.out (fun _ _ h => h)).2 (by omega)
        have c0 := hc i (.slice (F i).1 (F i).2.1 (F i).2.2.1) (by simp [hlt])
        have hiI : (i : Int) < (m : Int) := by omega
        have hi0 : (0 : Int) ≤ (i : Int) := by omega
        have w11 := KR.out.cell_some D11.out (fun h => h)
        obtain ⟨rl, hrl⟩ : ∃ rl, rl = (F i).2.1 := ⟨_, rfl⟩
        rw [← hrl] at c0
        have HRL := hide hrl
        have HI := hide hlt
        clear hc hrl
        by_cases hs : (rl : Int) = wd
        · have e4 : ((rl : Int) != wd) = false := by simp [hs]
          have HS : Hid ((rl : Int) = wd) := hide hs
          clear hs
          go_wp2_with fail
          go_roundw
          case rel =>
            refine ⟨i + 1, HLT.out, by go_num, hide (fun j hj => ?_), KR⟩
            rcases Nat.lt_or_ge j i with h | h
            · exact HJ.out j h
            · obtain rfl : j = i := by omega
              rw [← HRL.out]; exact HS.out
          case measure => have := HLT.out; simp [intOf]; omega
        · have e4 : ((rl : Int) != wd) = true := by simp [hs]
          have HR3 : Hid (rv = 3) := hide (by rw [HV4.out, if_pos ((rowsL_any F m _).2 ⟨i, HI.out, by rw [HLn.out i HI.out, ← HRL.out]; exact e4⟩)])
          clear hs
          go_wp2_with fail
          go_ret
          exact ⟨ret_int HR3.out.symm, K3.out.trans KR.out⟩
      · obtain rfl : i = m := by omega
        have HV2 : Hid (rv = if (Cmp.rowsL F i).any (fun r => r.any (fun z => decide (tot < z))) = true then 1 else 0) := hide (by
          rw [HV4.out, if_neg]
          intro he
          obtain ⟨j, hj, hp⟩ := (rowsL_any F i _).1 he
          rw [HLn.out j hj] at hp
          simp [HJ.out j hj] at hp)
        have KX := hide (K3.out.trans KR.out)
        have HHr := hide (HH3.out.kept KR.out (fun _ _ h => h))
        have s3' := KR.out.cell_some T3.out (fun h => h)
        have s0' := hide (KR.out.cell_some T0.out (fun h => h))
        have S3' := hide s3'
        obtain ⟨wx, rfl⟩ : ∃ wx : World, wx = wr := ⟨_, rfl⟩
        clear HV4 HJ KR K3 HH3 D11 T0 T3 t0 t3
        go_wp2_with fail
        trace "LOOPB"
        go_loopw [111] (fun iv wr => ∃ t : Nat, t ≤ i ∧ iv = .int .i64 t ∧ Hid (∀ j, j < t → (F j).2.2.2.any (fun z => decide (tot < z)) = false) ∧ Hid (Keeps (fun _ => False) wx wr)) (fun iv _ => i - (intOf iv).toNat)
        case atStart => exact ⟨0, by omega, rfl, hide (fun j h => by omega), hide (Keeps.refl _ _)⟩
        case round =>
          obtain ⟨t, ht, rfl, HJ, KR⟩ := hrel
          by_cases hlt : t < i
          · have HLT : Hid (t + 1 ≤ i) := hlt
            obtain ⟨b, off, rfl, hbB, hc⟩ := (HHr.out.rows.kept KR.out (fun _ _ h => h)).2 (by omega)
            have c0 := hc t (.slice (F t).1 (F t).2.1 (F t).2.2.1) (by simp [hlt])
            have hiI : (t : Int) < (i : Int) := by omega
            have hi0 : (0 : Int) ≤ (t : Int) := by omega
            have hrt := HHr.out.rrd t hlt
            have RZ := hide (hrt.1.kept KR.out (fun _ _ h => h))
            have hcap : (F t).2.1 ≤ 9223372036854775807 := by have := hrt.2.2; simp only [maxLen] at this; omega
            have HI := hide hlt
            obtain ⟨zs, hzs⟩ : ∃ zs, zs = (F t).2.2.2 := ⟨_, rfl⟩
            obtain ⟨nz, hnz⟩ : ∃ nz, nz = (F t).2.1 := ⟨_, rfl⟩
            have HZl := hide (show zs.length = nz by rw [hzs, hnz]; exact HLn.out t hlt)
            have HZS := hide hzs
            rw [← hzs, ← hnz] at RZ
            rw [← hnz] at c0 hcap
            have S0r := hide (KR.out.cell_some s0'.out (fun h => h))
            obtain ⟨wy, rfl⟩ : ∃ wy : World, wy = wr := ⟨_, rfl⟩
            clear hc hrt hzs hnz
            go_wp2_with fail
            trace "LOOPC"
            go_loopw [117] (fun iv wr => ∃ u : Nat, u ≤ nz ∧ iv = .int .i64 u ∧ Hid (∀ j z, j < u → zs[j]? = some z → decide (tot < z) = false) ∧ Hid (Keeps (fun _ => False) wy wr)) (fun iv _ => nz - (intOf iv).toNat)
            case atStart => exact ⟨0, by omega, rfl, hide (fun j z h => by omega), hide (Keeps.refl _ _)⟩
            case round =>
              obtain ⟨u, hu, rfl, HJu, KRu⟩ := hrel
              by_cases hlu : u < nz
              · have HLU : Hid (u + 1 ≤ nz) := hlu
                obtain ⟨bz, oz, hbz, _, hcz⟩ := (RZ.out.kept KRu.out (fun _ _ h => h)).2 (by omega)
                rw [hbz]
                obtain ⟨z, hz⟩ : ∃ z, zs[u]? = some z := ⟨zs[u]'(by rw [HZl.out]; exact hlu), by simp⟩
                have cz := hcz u (.int .u64 z) (by simp [hz])
                have huI : (u : Int) < (nz : Int) := by omega
                have hu0 : (0 : Int) ≤ (u : Int) := by omega
                have sz0 := KRu.out.cell_some S0r.out (fun h => h)
                have HZ := hide hz
                clear hcz hz hbz
                rcases ez : decide (tot < z) with _ | _
                · go_wp2_with fail
                  go_roundw
                  case rel =>
                    refine ⟨u + 1, HLU.out, by go_num, hide (fun j z' hj hz' => ?_), KRu⟩
                    rcases Nat.lt_or_ge j u with h | h
                    · exact HJu.out j z' h hz'
                    · obtain rfl : j = u := by omega
                      rw [HZ.out] at hz'; injection hz' with hz'; subst hz'; exact ez
                  case measure => have := HLU.out; simp [intOf]; omega
                · have HR1 : Hid (rv = 1) := hide (by rw [HV2.out, if_pos ((rowsL_any F i _).2 ⟨t, HI.out, by rw [← HZS.out]; exact List.any_eq_true.2 ⟨z, List.mem_of_getElem? HZ.out, ez⟩⟩)])
                  go_wp2_with fail
                  go_ret
                  exact ⟨ret_int HR1.out.symm, KX.out.trans (KR.out.trans KRu.out)⟩
              · obtain rfl : u = nz := by omega
                have HAny : Hid (zs.any (fun z => decide (tot < z)) = false) := hide (by
                  rw [Bool.eq_false_iff]
                  intro he
                  obtain ⟨z, hz1, hz2⟩ := List.any_eq_true.1 he
                  obtain ⟨j, hj, rfl⟩ := List.getElem_of_mem hz1
                  have := HJu.out j _ (by rw [← HZl.out]; exact hj) (List.getElem?_eq_getElem hj)
                  rw [this] at hz2; cases hz2)
                go_wp2_with fail
                go_roundw
                case rel =>
                  refine ⟨t + 1, HLT.out, by go_num, hide (fun j hj => ?_), hide (KR.out.trans KRu.out)⟩
                  rcases Nat.lt_or_ge j t with h | h
                  · exact HJ.out j h
                  · obtain rfl : j = t := by omega
                    rw [← HZS.out]; exact HAny.out
                case measure => have := HLT.out; simp [intOf]; omega
          · obtain rfl : t = i := by omega
            have HR0 : Hid (rv = 0) := hide (by
              rw [HV2.out, if_neg]
              intro he
              obtain ⟨j, hj, hp⟩ := (rowsL_any F t _).1 he
              rw [HJ.out j hj] at hp
              cases hp)
            go_wp2_with fail
            go_ret
            exact ⟨ret_int HR0.out.symm, KX.out.trans KR.out⟩
end Go.Proofs.Ytaiopdipldaimaa
