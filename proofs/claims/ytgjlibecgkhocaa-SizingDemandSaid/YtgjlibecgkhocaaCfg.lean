/-
  Deck.Config: a valid configuration, whose classes have just as many slots as are needed.
-/
import Derived.Test.YtgjlibecgkhocaaCfi
set_option linter.unusedVariables false
set_option linter.unusedSimpArgs false
namespace Go.Proofs.Ytgjlibecgkhocaa
open Go.RowKit Cfp

/-- What Config gives. -/
def Configs (w : World) (B g : Nat) (e : Ending) (w' : World) : Prop :=
  ∃ (c : Cfg) (l : List (Int × Int)) (G b : Nat) (ts : List Int), e = .returned (Value.agg #[.int .i64 c.length, .int .i64 c.lateness, .int .i64 c.windows, .int .i64 c.shards, .int .i64 c.spread, .int .i64 c.queue, .int .i64 c.mode, .int .i64 c.slots, .int .i64 c.exact_, .int .u64 c.promote, .int .i64 c.depth, .int .i64 c.width, .int .i64 c.top, .int .i64 c.key, .slice (some ⟨G, 0, none⟩) l.length l.length, .slice (some ⟨b, 0, none⟩) 16 16, .int .u64 c.seed]) ∧ Mild c ∧ (l.map Prod.fst = [8, 24, 32, 80, 256] ∨ l.map Prod.fst = [256]) ∧ l.map Prod.snd = demand0 c l ∧
    w.heap.size ≤ G ∧ Blk w' G 46 (clv l).toArray ∧ ts.length = 16 ∧ (∀ z ∈ ts, 0 ≤ z ∧ z < 18446744073709551616) ∧ Blk w' b 24 (ts.map (.int .u64)).toArray ∧ w.heap.size ≤ b ∧ IsDeck w' B g ∧ Keeps (· = g) w w'
set_option maxRecDepth 100000 in
set_option maxHeartbeats 4000000 in
theorem config_any (B g : Nat) (w : World) (h : IsDeck w B g) : Calls Try.prog 13 #[.pointer (some ⟨g, 0, none⟩)] w (Configs w B g) := by
  have hgl := h.lt
  have hgB := h.le
  have hb0 := hide (Blk.new w 28 #[.int .i64 0, .int .i64 0, .int .i64 0, .int .i64 0, .int .i64 0, .int .i64 0, .int .i64 0, .int .i64 0, .int .i64 0, .int .u64 0, .int .i64 0, .int .i64 0, .int .i64 0, .int .i64 0, .slice none 0 0, .slice none 0 0, .int .u64 0])
  have K0 := hide ((Keeps.refl (· = g) w).alloc (.cells #[.int .i64 0, .int .i64 0, .int .i64 0, .int .i64 0, .int .i64 0, .int .i64 0, .int .i64 0, .int .i64 0, .int .i64 0, .int .u64 0, .int .i64 0, .int .i64 0, .int .i64 0, .int .i64 0, .slice none 0 0, .slice none 0 0, .int .u64 0] 28))
  have d0 := hide (h.kept ((Keeps.refl (fun _ => False) w).alloc (.cells #[.int .i64 0, .int .i64 0, .int .i64 0, .int .i64 0, .int .i64 0, .int .i64 0, .int .i64 0, .int .i64 0, .int .i64 0, .int .u64 0, .int .i64 0, .int .i64 0, .int .i64 0, .int .i64 0, .slice none 0 0, .slice none 0 0, .int .u64 0] 28)) (fun h => h) (fun _ _ h => h))
  clear h
  go_enter Try.func13, Try.ntmps13
  go_upto_region 1 with fail
  refine Code.wp_mono ?_ (reg1 B g w _ _ _ _ _ _ _ _ _ _ _ _ _ _ _ _ _ _ _ _ _ _ _ _ _ _ _ _ _ _ _ _ _ _ _ _ _ _ _ _ _ _ _ _ _ _ _ _ _ _ _ _ _ _ _ _ _ _ _ _ _ _ _ _ _ _ _ _ _ _ _ _ _ _ _ _ _ _ _ _ _ _ _ _ _ _ _ _ _ _ _ _ _ _ _ _ hb0.out K0.out d0.out hgl hgB)
  intro e a' w15 hex
  cases e <;> (first | exact hex.elim | skip)
  obtain ⟨X, ⟨v7, v8, v9, v10, v11, v12, v13, v14, v15, v16, v17, v18, v19, v20, v21, v22, v23, v24, v25, v26, v27, v28, v29, v30, v31, v32, v33, v34, v35, v36, v37, v38, v39, v40, v41, v42, v43, v44, v45, rfl⟩, c0, b, ts, hm, tl, tb, tk, tw, bx, d15, kp, b0, hX⟩ := hex
  dsimp only
  have q3 : w15.cell? ⟨X, 3, none⟩ = some (.int .i64 c0.shards) := bx.cell 3
  have hsh := hm.fine.shards
  dsimp only at hsh
  have HM := hide hm
  have HT := hide tk
  have BX := hide bx
  have KP := hide kp
  have B0 := hide b0
  clear hm tk bx kp b0 hb0 K0 d0
  go_wp2_with fail
  refine (next_any c0.shards (by omega) (by omega) B g _ d15).mono ?_
  rintro e w16 ⟨x13, rfl, a13, b13, d16, k16⟩
  have p13 : IntKind.i64.wrap (1 + x13) = 1 + x13 := IntWalk.i64_in _ (by omega)
  have bx16 := BX.out.kept k16 (by omega)
  have c4 := bx16.frozen 4
  have c4' : w16.cell? ⟨X, 4, none⟩ = some (.int .i64 c0.spread) := bx16.cell 4
  have HM' := hide (HM.out.s (1 + x13) (by omega) (by omega))
  have hS0 : Hid (Blk w16 b 24 (ts.map (.int .u64)).toArray ∧ Blk w16 X 28 #[.int .i64 c0.length, .int .i64 c0.lateness, .int .i64 c0.windows, .int .i64 c0.shards, .int .i64 c0.spread, .int .i64 c0.queue, .int .i64 c0.mode, .int .i64 c0.slots, .int .i64 c0.exact_, .int .u64 c0.promote, .int .i64 c0.depth, .int .i64 c0.width, .int .i64 c0.top, .int .i64 c0.key, .slice none 0 0, .slice (some ⟨b, 0, none⟩) 16 16, .int .u64 c0.seed] ∧ Keeps (· = g) w w16 ∧ Blk w16 w.heap.size 28 #[.int .i64 0, .int .i64 0, .int .i64 0, .int .i64 0, .int .i64 0, .int .i64 0, .int .i64 0, .int .i64 0, .int .i64 0, .int .u64 0, .int .i64 0, .int .i64 0, .int .i64 0, .int .i64 0, .slice none 0 0, .slice none 0 0, .int .u64 0]) := ⟨HT.out.kept k16 (by omega), bx16, KP.out.trans k16, B0.out.kept k16 (by omega)⟩
  have D16 := hide d16
  clear bx16 k16 d15 BX HT B0 KP HM q3 d16
  trace "SPREAD"
  go_wp2_with fail
  have hS : Hid (CSx w B g X none 0 0 { c0 with spread := 1 + x13 } b ts (w16.setCell ⟨X, 4, none⟩ (.int .i64 (1 + x13)))) := by
    obtain ⟨tk, bx, kp, b0⟩ := hS0.out
    have kS : Keeps (· = X) w16 (w16.setCell ⟨X, 4, none⟩ (.int .i64 (1 + x13))) := Keeps.setCell (S := (· = X)) (p := ⟨X, 4, none⟩) (Keeps.refl _ _) (.inl rfl) _
    have hne : b ≠ X := tk.ne bx (by decide)
    exact ⟨HM'.out, tl, tb, tk.kept kS hne, tw, bx.set 4 _, D16.out.kept kS (by omega) (fun b hb => by omega), kp.step kS (fun b hb e => by omega), b0.kept kS (by omega), hX, hgl, hgB⟩
  clear hS0 c4 c4' D16 HM' p13
  generalize w16.setCell ⟨X, 4, none⟩ (.int .i64 (1 + x13)) = w17 at *
  refine (next_any 4 (by omega) (by omega) B g _ hS.out.dk).mono ?_
  rintro e w18 ⟨y1, rfl, ya1, yb1, d18, k18⟩
  have HS := hide (hS.out.kept k18 d18)
  clear k18 d18 hS
  go_upto_if 54 with fail
  trace "IF1"
  go_cut [] from 55 to 55 (CS w B g X none 0 0)
  case first =>
    have f5 := HS.out.bx.frozen 5
    have f5' : w18.cell? ⟨X, 5, none⟩ = some (.int .i64 c0.queue) := HS.out.bx.cell 5
    go_wp2_with fail
    all_goals
      trace "W1"
      go_meet
      first
        | exact ⟨_, _, _, HS.out.put 5 (.int .i64 64) HS.out.mild.q rfl⟩
        | exact ⟨_, _, _, HS.out⟩
  case rest =>
  clear HS
  obtain ⟨c1, b1, t1, h1⟩ := hcut
  go_wp2_with fail
  refine (next_any 4 (by omega) (by omega) B g _ h1.dk).mono ?_
  rintro e w18 ⟨y2, rfl, ya2, yb2, d18, k18⟩
  have HS := hide (h1.kept k18 d18)
  clear k18 d18 h1
  go_upto_if 58 with fail
  trace "IF2"
  generalize (y2 == 1) = bb
  go_cut [] from 59 to 62 (CS w B g X none 0 0)
  case first =>
    cases bb
    · go_wp2_with fail
      go_meet
      exact ⟨_, _, _, HS.out⟩
    · go_wp2_with fail
      refine (next_any 10 (by omega) (by omega) B g _ HS.out.dk).mono ?_
      rintro e w19 ⟨y3, rfl, ya3, yb3, d19, k19⟩
      have HS3 := hide (HS.out.kept k19 d19)
      have f5 := HS3.out.bx.frozen 13
      have f5' : w19.cell? ⟨X, 13, none⟩ = some (.int .i64 c1.key) := HS3.out.bx.cell 13
      have p13 : IntKind.i64.wrap (5 + y3) = 5 + y3 := IntWalk.i64_in _ (by omega)
      clear k19 d19
      go_wp2_with fail
      go_meet
      exact ⟨_, _, _, HS3.out.put 13 (.int .i64 (5 + y3)) (HS3.out.mild.k (5 + y3) (by omega) (by omega)) rfl⟩
  case rest =>
  clear HS
  obtain ⟨c2, b2, t2, h2⟩ := hcut
  trace "CLASSES"
  have H2 := hide h2
  clear h2
  have f14 := H2.out.bx.frozen 14
  have f14' : wc.cell? ⟨X, 14, none⟩ = some (.slice none 0 0) := H2.out.bx.cell 14
  have hXc := H2.out.bx.lt
  go_wp2_with fail
  obtain ⟨wa, hwa⟩ : ∃ wa, wa = (wc.setCell ⟨X, 14, none⟩ (.slice (some ⟨wc.heap.size, 0, none⟩) 5 5)).alloc (.cells #[.int .i64 8, .int .i64 0, .int .i64 24, .int .i64 0, .int .i64 32, .int .i64 0, .int .i64 80, .int .i64 0, .int .i64 256, .int .i64 0] 46) := ⟨_, rfl⟩
  rw [← hwa]
  have HG3 := hide (show Blk wa wc.heap.size 46 (clv l5).toArray by rw [hwa]; exact Blk.new_at _ _ _ _ (by simp))
  have H3 := hide (show CSx w B g X (some ⟨wc.heap.size, 0, none⟩) 5 5 c2 b2 t2 wa by
    rw [hwa]; exact (H2.out.put 14 (.slice (some ⟨wc.heap.size, 0, none⟩) 5 5) H2.out.mild rfl).quiet ((Keeps.refl _ _).alloc _))
  have hGc : w.heap.size ≤ wc.heap.size := H2.out.kp.size
  have hXa := H2.out.hX
  clear hwa H2 f14 f14'
  generalize wc.heap.size = G at *
  refine (next_any 3 (by omega) (by omega) B g _ H3.out.dk).mono ?_
  rintro e w20 ⟨y4, rfl, ya4, yb4, d20, k20⟩
  have H4 := hide (H3.out.kept k20 d20)
  have HG4 := hide (HG3.out.kept k20 (by omega))
  clear k20 d20 H3 HG3
  go_upto_if 72 with fail
  generalize (y4 == 1) = bb
  trace "IF3"
  go_cut [] from 73 to 75 (CL w B g X)
  case first =>
    have f14 := H4.out.bx.frozen 14
    have f14' : w20.cell? ⟨X, 14, none⟩ = some (.slice (some ⟨G, 0, none⟩) 5 5) := H4.out.bx.cell 14
    have hXc := H4.out.bx.lt
    cases bb
    · go_wp2_with fail
      go_meet
      exact ⟨l5, G, 5, _, _, _, .inl rfl, rfl, HG4.out, hGc, H4.out⟩
    · go_wp2_with fail
      go_meet
      exact ⟨l1, w20.heap.size, 1, _, _, _, .inr rfl, rfl, Blk.new_at _ _ _ _ (by simp), H4.out.kp.size, (H4.out.put 14 (.slice (some ⟨w20.heap.size, 0, none⟩) 1 1) H4.out.mild rfl).quiet ((Keeps.refl _ _).alloc _)⟩
  case rest =>
  clear H4 HG4
  obtain ⟨l, G1, n, c3, b3, t3, hl, hn, hg3, hG1, h3⟩ := hcut
  have HL : Hid (l = l5 ∨ l = l1) := hl
  have HN : Hid (n = l.length) := hn
  have hn8 : 1 ≤ n ∧ n ≤ 8 := by subst hn; rcases hl with rfl | rfl <;> simp [l5, l1]
  have hcl : Hid (classesE l = 0) := by rcases hl with rfl | rfl <;> (show _ = _; rfl)
  have hrm : Hid (Room c3 l) := by
    have h1 := h3.mild.width
    have h2 := h3.mild.fine.key
    rcases hl with rfl | rfl
    · exact ⟨4, (256, 0), rfl, rfl, by dsimp only; omega, by dsimp only; omega, by dsimp only; omega⟩
    · exact ⟨0, (256, 0), rfl, rfl, by dsimp only; omega, by dsimp only; omega, by dsimp only; omega⟩
  have HD := hide (demand_ok c3 h3.mild.fine l hcl.out hrm.out (some ⟨G1, 0, none⟩) (some ⟨b3, 0, none⟩) n n 16 _ _ (hg3.rd (by rw [clv_len, HN.out])) (Nat.le_refl _))
  have H5 := hide h3
  have HG5 := hide hg3
  clear hl hn hg3 h3
  trace "DEMAND"
  go_wp2_with (refine cfg_ld _ rfl H5.out.bx rfl (by rfl) ?_; simp only [Act.put, List.setIfInBounds_toArray, List.set_cons_zero, List.set_cons_succ])
  refine HD.out.mono ?_
  rintro e w21 ⟨g1, rfl, hg1, nu, k21⟩
  obtain ⟨zs, hzs⟩ : ∃ zs, zs = demand0 c3 l := ⟨_, rfl⟩
  rw [← hzs] at nu
  have HE := hide hzs
  have HZL : Hid (zs.length = n) := by show _ = _; rw [hzs, demand0_len, HN.out]
  have HZ := hide nu
  have H6 := hide (H5.out.quiet k21)
  have HG6 := hide (HG5.out.kept k21 (fun h => h))
  have hg1l := HG5.out.lt
  clear HD H5 HG5 nu k21 hzs
  go_wp2_with fail
  trace "LOOP"
  go_loopw [6, 83] (fun _ iv wr => ∃ i : Nat, i ≤ n ∧ iv = .int .i64 i ∧ Hid (Blk wr G1 46 (clv (fillN l zs i)).toArray) ∧ Hid (Nums wr g1 zs) ∧ Hid (CSx w B g X (some ⟨G1, 0, none⟩) n n c3 b3 t3 wr)) (fun _ iv _ => n - (intOf iv).toNat)
  case atStart => exact ⟨0, by omega, rfl, HG6, HZ, H6⟩
  case round =>
    obtain ⟨i, hi, rfl, HGr, HZr, Hr⟩ := hrel
    clear HG6 HZ H6
    by_cases hlt : i < n
    · have f14 : wr.cell? ⟨X, 14, none⟩ = some (.slice (some ⟨G1, 0, none⟩) n n) := Hr.out.bx.cell 14
      have hz := HZr.out.cell i (by have := HZL.out; omega)
      obtain ⟨z, hze⟩ : ∃ z, z = zs.getD i 0 := ⟨_, rfl⟩
      rw [← hze] at hz
      have HZE := hide hze
      have hfl : (fillN l zs i).length = n := by rw [fillN_len, HN.out]
      have hcc := (clv_at (fillN l zs i) i ((fillN l zs i)[i]'(by omega)) (by simp)).2
      have ht := HGr.out.cell (i * 2 + 1)
      rw [List.getElem?_toArray, hcc] at ht
      have hf := HGr.out.frozen (i * 2 + 1)
      obtain ⟨tv, htv⟩ : ∃ tv, tv = ((fillN l zs i)[i]'(by omega)).2 := ⟨_, rfl⟩
      rw [← htv] at ht
      have HFL := hide hfl
      have hi0 : (0 : Int) ≤ (i : Int) := by omega
      have hi1 : (i : Int) < (n : Int) := by omega
      clear hze hfl hcc htv
      go_wp2_with fail
      go_region
      go_wp2_with fail
      trace "ROUND"
      go_roundw
      case rel =>
        have kS : Keeps (· = G1) wr (wr.setCell ⟨G1, i * 2 + 1, none⟩ (.int .i64 z)) := Keeps.setCell (S := (· = G1)) (p := ⟨G1, i * 2 + 1, none⟩) (Keeps.refl _ _) (.inl rfl) _
        refine ⟨i + 1, by omega, by go_num, ?_, ?_, ?_⟩
        · show Blk _ _ _ (clv (putN (fillN l zs i) i (zs.getD i 0))).toArray
          rw [← HZE.out, ← clv_put _ _ _ (by rw [HFL.out]; exact hlt), ← List.setIfInBounds_toArray]
          first | exact HGr.out.set (i * 2 + 1) (.int .i64 z) | exact (HGr.out.set (i * 2 + 1) (.int .i64 z)).drew
        · exact HZr.out.kept (S := (· = G1)) (by first | exact kS | exact kS.drew) (by omega)
        · have h1 := Hr.out.tk.ne HGr.out (by decide)
          have h2 := Hr.out.bx.ne HGr.out (by decide)
          have h3 := Hr.out.b0.ne HGr.out (by decide)
          exact Hr.out.far (q := G1) (by first | exact kS | exact kS.drew) (by omega) h1 h2
      case measure => simp [intOf]; omega
    · obtain rfl : i = n := by omega
      trace "EXIT"
      go_upto_region 16 with fail
      refine Code.wp_mono ?_ (reg16 c3 (some ⟨G1, 0, none⟩) (some ⟨b3, 0, none⟩) i i 16 w.heap.size X wr _ _ _ _ _ _ _ _ _ _ _ _ _ _ _ _ _ _ _ _ _ _ _ _ _ _ _ _ _ _ _ _ _ _ _ _ _ _ _ _ _ _ _ _ _ _ _ _ _ _ _ _ _ _ _ _ _ _ _ _ _ _ _ _ _ _ _ _ _ _ _ _ _ _ _ _ _ _ _ _ _ _ _ _ _ _ _ _ _ _ _ _ _ _ _ Hr.out.bx Hr.out.b0)
      intro e a' w'' hex
      cases e <;> (first | exact hex.elim | skip)
      obtain ⟨rfl, br, kr⟩ := hex
      obtain ⟨q0, q1, q2, q3, q4, q5, q6, q7, q8, q9, q10, q11, q12, q13, q14, q15, q16⟩ := cfg_cells br
      have KR := hide kr
      clear br kr
      dsimp only
      trace "LAST"
      go_wp2_with fail
      refine bodyPost_ret (v := Value.agg #[.int .i64 c3.length, .int .i64 c3.lateness, .int .i64 c3.windows, .int .i64 c3.shards, .int .i64 c3.spread, .int .i64 c3.queue, .int .i64 c3.mode, .int .i64 c3.slots, .int .i64 c3.exact_, .int .u64 c3.promote, .int .i64 c3.depth, .int .i64 c3.width, .int .i64 c3.top, .int .i64 c3.key, .slice (some ⟨G1, 0, none⟩) i i, .slice (some ⟨b3, 0, none⟩) 16 16, .int .u64 c3.seed]) (by simp [results, Try.results13, go_sem, q0, q1, q2, q3, q4, q5, q6, q7, q8, q9, q10, q11, q12, q13, q14, q15, q16]) rfl ?_
      have hL : (fillN l zs i).length = i := by rw [fillN_len]; exact HN.out.symm
      have h1 := Hr.out.tw
      have h2 := HGr.out.ne Hr.out.b0 (by decide)
      have h3 := Hr.out.hg
      have h4 := Hr.out.hB
      refine ⟨c3, fillN l zs i, G1, b3, t3, by rw [hL], Hr.out.mild, ?_, ?_, hG1, HGr.out.kept KR.out h2, Hr.out.tl, Hr.out.tb, Hr.out.tk.kept KR.out (by omega), by omega, Hr.out.dk.kept KR.out (by omega) (fun b hb => by omega), Hr.out.kp.step KR.out (fun b hb e => by omega)⟩
      · rw [fillN_fst]
        rcases HL.out with rfl | rfl
        · left; rfl
        · right; rfl
      · rw [demand_fst (fillN_fst l zs i), ← HE.out]
        have := fillN_all l zs (by rw [HZL.out]; exact HN.out)
        rw [← HN.out] at this
        exact this
end Go.Proofs.Ytgjlibecgkhocaa
