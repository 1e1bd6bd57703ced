/-
  SizingTight: a configuration with as many slots as are needed is valid, one with fewer of any class is not; the walk. No conditions beyond those of the statement.
-/
import Derived.Test.YtgjlibecgkhocaaSg
import Derived.Test.YtgjlibecgkhocaaLe
set_option linter.unusedVariables false
set_option linter.unusedSimpArgs false
namespace Go.Proofs.Ytgjlibecgkhocaa
open Go.RowKit Cfp
theorem elemC28 : ElemOf Try.prog 25 46 2 16 := ElemOf.mk' (z := .agg #[.int .i64 0, .int .i64 0]) Try.underlying25 (by kernel_rfl) rfl (by omega)
theorem clv_one (l : List (Int × Int)) : ∀ u ∈ clv l, u.oneCell' = true := by
  induction l with
  | nil => intro u hu; simp [clv] at hu
  | cons x l ih =>
    intro u hu
    simp [clv] at hu
    rcases hu with rfl | rfl | hu
    · rfl
    · rfl
    · exact ih u (by simpa [clv] using hu)
theorem set_same {α : Type} (xs : List α) (j : Nat) (v : α) (h : xs[j]? = some v) : xs.set j v = xs := by
  refine List.ext_getElem? fun k => ?_
  rw [List.getElem?_set]
  split
  · next e => subst e; rw [h]; have := (List.getElem?_eq_some_iff.1 h).1; simp [this]
  · rfl
namespace sizingTight

set_option maxRecDepth 100000 in
set_option maxHeartbeats 3000000 in
theorem main (w : World) (A1 : Option Addr) (n1 c1 : Nat) (zs0 : List Int) (hd : Rd w w.heap.size A1 1 n1 (zs0.map (.int .i64))) (hz : ∀ z ∈ zs0, -9223372036854775808 ≤ z ∧ z < 9223372036854775808) (hn1 : n1 ≤ 17592186043904)
    (x : Int) (x0 : 0 ≤ x) (x1 : x < 256) :
    Calls Try.prog 8 #[.slice A1 n1 c1, .int .u8 x] w fun e w' => e = .returned (.bool true) ∧ Keeps (fun _ => False) w w' := by
  have HD := hide hd
  clear hd
  go_enter Try.func8, Try.ntmps8
  go_wp2_with fail
  refine (new_deck A1 n1 c1 zs0 _ w (Nat.le_refl _) HD.out hz (by omega)).mono ?_
  rintro e w1 ⟨rfl, d1, k1⟩
  have K1 := hide k1
  clear k1
  go_wp2_with fail
  refine (config_any _ w.heap.size w1 d1).mono ?_
  rintro e w2 ⟨c, l, G, b, ts, rfl, hm, hl, hsn, hG, bG, tl, tb, bt, hb, d2, k2⟩
  have K2 := hide (K1.out.step k2 (fun b hb e => by omega))
  have HM := hide hm
  have HCo := hide (made_counts c hm.fine l hsn)
  have HCl := hide (made_ok l hl (made_counts c hm.fine l hsn))
  have HRm := hide (made_room c hm.width hm.fine.key.2 l hl)
  have HL := hide hl
  have hn8 : l.length ≤ 8 ∧ 1 ≤ l.length := by obtain ⟨p, d, h1, _, _, h2⟩ := made_last l hl; omega
  obtain ⟨nl, hnl⟩ : ∃ nl, nl = l.length := ⟨_, rfl⟩
  rw [← hnl] at hn8 ⊢
  have HNl := hide hnl
  have BX := hide (Blk.new w2 28 #[.int .i64 c.length, .int .i64 c.lateness, .int .i64 c.windows, .int .i64 c.shards, .int .i64 c.spread, .int .i64 c.queue, .int .i64 c.mode, .int .i64 c.slots, .int .i64 c.exact_, .int .u64 c.promote, .int .i64 c.depth, .int .i64 c.width, .int .i64 c.top, .int .i64 c.key, .slice (some ⟨G, 0, none⟩) nl nl, .slice (some ⟨b, 0, none⟩) 16 16, .int .u64 c.seed])
  have kX := (Keeps.refl (fun _ => False) w2).alloc (.cells #[.int .i64 c.length, .int .i64 c.lateness, .int .i64 c.windows, .int .i64 c.shards, .int .i64 c.spread, .int .i64 c.queue, .int .i64 c.mode, .int .i64 c.slots, .int .i64 c.exact_, .int .u64 c.promote, .int .i64 c.depth, .int .i64 c.width, .int .i64 c.top, .int .i64 c.key, .slice (some ⟨G, 0, none⟩) nl nl, .slice (some ⟨b, 0, none⟩) 16 16, .int .u64 c.seed] 28)
  have RC := hide (show Rd (w2.alloc (.cells #[.int .i64 c.length, .int .i64 c.lateness, .int .i64 c.windows, .int .i64 c.shards, .int .i64 c.spread, .int .i64 c.queue, .int .i64 c.mode, .int .i64 c.slots, .int .i64 c.exact_, .int .u64 c.promote, .int .i64 c.depth, .int .i64 c.width, .int .i64 c.top, .int .i64 c.key, .slice (some ⟨G, 0, none⟩) nl nl, .slice (some ⟨b, 0, none⟩) 16 16, .int .u64 c.seed] 28)) w2.heap.size (some ⟨G, 0, none⟩) 2 nl (clv l) from (bG.rd (n := nl) (sz := 2) (by rw [clv_len, hnl])).kept kX (fun _ _ h => h))
  have K3 := hide (K2.out.trans kX)
  have hwX : w.heap.size < w2.heap.size := by have := d2.lt; omega
  have HSn := hide hsn
  have HDl := hide (show (demand0 c l).length = nl by rw [demand0_len, hnl])
  have HDc := hide (fun W hr hB => sdemand_ok c HM.out.fine l HCl.out HRm.out (some ⟨G, 0, none⟩) (some ⟨b, 0, none⟩) nl nl 16 w2.heap.size W hr hB)
  have hv0 : fullV (demand0 c l) l = 0 := fullV_f (full_none _ _ (fun i h1 h2 => by
    have := congrArg (fun m => m[i]?) hsn
    simp [h1, h2] at this
    omega))
  have HV1 := hide (fun C k B W hr hB => svalidate_ok c HM.out.fine l HCl.out HRm.out C (some ⟨b, 0, none⟩) nl k 16 B W hr hB)
  rw [hv0] at HV1
  have HFs := hide (fun (p : Nat) (z : Int) => putN_fst l p z)
  have HV2 := hide (fun (p : Nat) (z : Int) (hp : p < l.length) (hz0 : 0 ≤ z) (hz1 : z < (demand0 c l).getD p 0) (C : Option Addr) (k B : Nat) (W : World) (hr : Rd W B C 2 nl (clv (putN l p z))) (hB : B ≤ W.heap.size) => by
    have hfst : (putN l p z).map Prod.fst = [8, 24, 32, 80, 256] ∨ (putN l p z).map Prod.fst = [256] := by rw [putN_fst]; exact hl
    have hbd := demand_bd c HM.out.fine l p (by rw [demand0_len]; exact hp)
    have hcl : classesE (putN l p z) = 0 := made_ok _ hfst (fun y hy => by
      rcases List.mem_or_eq_of_mem_set hy with h | h
      · exact HCo.out y h
      · rw [h]; dsimp only; omega)
    have h1 := svalidate_ok c HM.out.fine (putN l p z) hcl (made_room c hm.width hm.fine.key.2 _ hfst) C (some ⟨b, 0, none⟩) nl k 16 B W hr hB
    rw [demand_fst (putN_fst l p z) c] at h1
    have h2 : fullV (demand0 c l) (putN l p z) = 7 := fullV_t (full_some _ _ p (by rw [demand0_len]; exact hp) (by rw [putN_len]; exact hp) (by
      have h3 : ((putN l p z)[p]'(by rw [putN_len]; exact hp)) = ((l.getD p (0, 0)).1, z) := by simp [putN]
      rw [h3]
      simpa [List.getD, demand0_len, hp] using hz1))
    rw [h2] at h1
    exact h1)
  have hbd := hide (demand_bd c HM.out.fine l)
  obtain ⟨zs, hzs⟩ : ∃ zs, zs = demand0 c l := ⟨_, rfl⟩
  rw [← hzs] at HSn HDl HDc HV2 hbd
  clear hl hsn hG bG bt hb d2 k2 hm hnl K2 K1 d1 kX tl tb hv0 hzs HM HCo HCl HRm HL HFs
  go_upto_region 2 with (refine cfg_st _ _ rfl (by rfl) (by rfl) (by rfl) (by rfl) ?_; simp only [Act.put, List.setIfInBounds_toArray, List.set_cons_zero, List.set_cons_succ])
  generalize w2.alloc _ = w3 at *
  generalize w2.heap.size = X1 at *
  have hX13 : X1 < w3.heap.size := BX.out.lt
  go_wp2_with (refine cfg_ld _ rfl BX.out rfl (by rfl) ?_; simp only [Act.put, List.setIfInBounds_toArray, List.set_cons_zero, List.set_cons_succ])
  trace "DEMAND"
  refine (HDc.out _ RC.out (by omega)).mono ?_
  rintro e w4 ⟨g1, rfl, hg1, nu, k4⟩
  have BX4 := hide (BX.out.kept k4 (fun h => h))
  have RC4 := hide (RC.out.kept k4 (fun _ _ h => h))
  have K4 := hide (K3.out.trans k4)
  have NU4 := hide nu
  have q14 : w4.cell? ⟨X1, 14, none⟩ = some (.slice (some ⟨G, 0, none⟩) nl nl) := BX4.out.cell 14
  have hX14 : X1 < w4.heap.size := BX4.out.lt
  have hne1 : g1 ≠ X1 := nu.ne BX4.out (by decide)
  have hnn : ((nl : Int) != (nl : Int)) = false := by simp
  clear nu k4 BX RC K3 HDc
  go_upto_region 5 with fail
  have BY := hide (Blk.new w4 28 #[.int .i64 c.length, .int .i64 c.lateness, .int .i64 c.windows, .int .i64 c.shards, .int .i64 c.spread, .int .i64 c.queue, .int .i64 c.mode, .int .i64 c.slots, .int .i64 c.exact_, .int .u64 c.promote, .int .i64 c.depth, .int .i64 c.width, .int .i64 c.top, .int .i64 c.key, .slice (some ⟨G, 0, none⟩) nl nl, .slice (some ⟨b, 0, none⟩) 16 16, .int .u64 c.seed])
  have kY := (Keeps.refl (fun _ => False) w4).alloc (.cells #[.int .i64 c.length, .int .i64 c.lateness, .int .i64 c.windows, .int .i64 c.shards, .int .i64 c.spread, .int .i64 c.queue, .int .i64 c.mode, .int .i64 c.slots, .int .i64 c.exact_, .int .u64 c.promote, .int .i64 c.depth, .int .i64 c.width, .int .i64 c.top, .int .i64 c.key, .slice (some ⟨G, 0, none⟩) nl nl, .slice (some ⟨b, 0, none⟩) 16 16, .int .u64 c.seed] 28)
  have BX5 := hide (BX4.out.kept kY (fun h => h))
  have RC5 := hide (RC4.out.kept kY (fun _ _ h => h))
  have K5 := hide (K4.out.trans kY)
  have NU5 := hide (NU4.out.kept kY (fun h => h))
  have hg14 : g1 < w4.heap.size := NU4.out.lt
  go_upto_region 6 with (first | (refine cfg_ld _ rfl BX4.out rfl (by rfl) ?_; simp only [Act.put, List.setIfInBounds_toArray, List.set_cons_zero, List.set_cons_succ]) | (refine cfg_st _ _ rfl (by rfl) (by rfl) (by rfl) (by rfl) ?_; simp only [Act.put, List.setIfInBounds_toArray, List.set_cons_zero, List.set_cons_succ]))
  clear q14 kY BX4 RC4 K4 NU4
  generalize w4.alloc _ = w5 at *
  generalize w4.heap.size = X2 at *
  have q14x : w5.cell? ⟨X1, 14, none⟩ = some (.slice (some ⟨G, 0, none⟩) nl nl) := BX5.out.cell 14
  have hX25 : X2 < w5.heap.size := BY.out.lt
  have hX15 : X1 < w5.heap.size := by omega
  trace "R6"
  go_upto_region 7 with (at_builtin; refine wpList_app _ elemC28 rfl (.tmp 30) (.tmp 32) rfl w5.heap.size _ rfl (Own.new0 _ _ 46 2 _ (by simp) (by omega)) _ (m := nl) _ rfl (RC5.out.kept ((Keeps.refl (fun _ => False) w5).alloc _) (fun _ _ h => h)) (clv_one l) (by simp only [maxLen]; omega) (by omega) (by simp) ?_; intro A7 c7 w7 o7 k7 _; rw [Nat.zero_add, List.nil_append] at o7; have O7 := hide o7; have K7 := hide (((Keeps.refl (fun _ => False) w5).alloc (.cells #[] 46)).step k7 (fun k hk h => by have := (inB_some _ _ _).1 h; omega)); have q14 := (BY.out.kept K7.out (fun h => h)).cell 14; have f14 := (BY.out.kept K7.out (fun h => h)).frozen 14; clear o7 k7)
  trace "R7"
  obtain ⟨G2, rfl, hG2a, hG2b⟩ := O7.out.some_ (by omega)
  have kS : Keeps (· = X2) w7 (w7.setCell ⟨X2, 14, none⟩ (.slice (some ⟨G2, 0, none⟩) nl c7)) := Keeps.setCell (S := (· = X2)) (p := ⟨X2, 14, none⟩) (Keeps.refl _ _) (.inl rfl) _
  have BY8 : Hid (Blk (w7.setCell ⟨X2, 14, none⟩ (.slice (some ⟨G2, 0, none⟩) nl c7)) X2 28 #[.int .i64 c.length, .int .i64 c.lateness, .int .i64 c.windows, .int .i64 c.shards, .int .i64 c.spread, .int .i64 c.queue, .int .i64 c.mode, .int .i64 c.slots, .int .i64 c.exact_, .int .u64 c.promote, .int .i64 c.depth, .int .i64 c.width, .int .i64 c.top, .int .i64 c.key, .slice (some ⟨G2, 0, none⟩) nl c7, .slice (some ⟨b, 0, none⟩) 16 16, .int .u64 c.seed]) := (BY.out.kept K7.out (fun h => h)).set 14 _
  have O8 := hide (O7.out.kept kS (fun b hb => by have := (inB_some _ _ _).1 hb; omega))
  have K8 := hide ((K5.out.trans K7.out).step kS (fun b hb e => by omega))
  have NU8 := hide ((NU5.out.kept K7.out (fun h => h)).kept kS (by omega))
  clear kS O7 q14 f14 BY K5 NU5 BX5 RC5 q14x K7
  generalize w7.setCell _ _ = w8 at *
  have q14 : w8.cell? ⟨X2, 14, none⟩ = some (.slice (some ⟨G2, 0, none⟩) nl c7) := BY8.out.cell 14
  have hG2x : G2 ≠ X2 := by omega
  have hG2g : g1 ≠ G2 := by omega
  have hncc := O8.out.le
  go_wp2_with fail
  trace "LOOP"
  go_loopw [9, 38] (fun _ iv wr => ∃ i : Nat, i ≤ nl ∧ iv = .int .i64 i ∧ Hid (Own wr w5.heap.size 46 2 (some ⟨G2, 0, none⟩) nl c7 (clv l)) ∧ Hid (Keeps (· = G2) w8 wr)) (fun _ iv _ => nl - (intOf iv).toNat)
  case atStart => exact ⟨0, by omega, rfl, O8, hide (Keeps.refl _ _)⟩
  case round =>
    obtain ⟨i, hi, rfl, OR, KR⟩ := hrel
    by_cases hlt : i < nl
    · have HLT : Hid (i + 1 ≤ nl) := hlt
      have fx : wr.cell? ⟨X2, 14, none⟩ = some (.slice (some ⟨G2, 0, none⟩) nl c7) := (BY8.out.kept KR.out (by omega)).cell 14
      have hil : i < l.length := by rw [← HNl.out]; exact hlt
      have hz := (NU8.out.kept KR.out (by omega)).cell i (by rw [HDl.out]; exact hlt)
      obtain ⟨z, hze⟩ : ∃ z, z = zs.getD i 0 := ⟨_, rfl⟩
      rw [← hze] at hz
      have hlz : l[i].2 = z := by
        have := congrArg (fun m => m[i]?) HSn.out
        have h2 : i < zs.length := by rw [HDl.out]; exact hlt
        simp [hil, h2] at this
        rw [hze, this]; simp [List.getD, h2]
      have hcc := (clv_at l i (l[i]'hil) (by simp)).2
      rw [hlz] at hcc
      have ht := OR.out.cell (i * 2 + 1) (by omega)
      rw [hcc] at ht
      have hf := OR.out.frozen (i * 2 + 1)
      have HSS : Hid (Own (wr.setCell ⟨G2, i * 2 + 1, none⟩ (.int .i64 z)) w5.heap.size 46 2 (some ⟨G2, 0, none⟩) nl c7 (clv l)) := by
        have := OR.out.store (i * 2 + 1) (.int .i64 z)
        rw [set_same _ _ _ hcc] at this
        exact this
      have kS : Keeps (· = G2) wr (wr.setCell ⟨G2, i * 2 + 1, none⟩ (.int .i64 z)) := Keeps.setCell (S := (· = G2)) (p := ⟨G2, i * 2 + 1, none⟩) (Keeps.refl _ _) (.inl rfl) _
      have KS := hide kS
      have hi0 : (0 : Int) ≤ (i : Int) := by omega
      have hi1 : (i : Int) < (nl : Int) := by omega
      clear hze hcc kS hil hlz
      go_wp2_with fail
      go_region
      go_wp2_with fail
      trace "ROUND"
      go_roundw
      case rel =>
        refine ⟨i + 1, HLT.out, by go_num, ?_, ?_⟩
        · first | exact HSS | exact hide (HSS.out.drewN _) | exact hide (HSS.out.drewN 1)
        · first | exact hide (KR.out.trans KS.out) | exact hide ((KR.out.trans KS.out).drew) | exact hide ((KR.out.trans KS.out).drewN _)
      case measure => have := HLT.out; simp [intOf]; omega
    · obtain rfl : i = nl := by omega
      trace "EXIT"
      have BY9 := hide (BY8.out.kept KR.out (by omega))
      have K9 := hide (K8.out.step KR.out (fun b hb e => by omega))
      have NU9 := hide (NU8.out.kept KR.out (by omega))
      have hs9 : w8.heap.size ≤ wr.heap.size := KR.out.size
      have hX28 : X2 < w8.heap.size := BY8.out.lt
      clear BY8 O8 K8 NU8 q14
      go_upto_region 12 with fail
      go_wp2_with (refine cfg_ld _ rfl BY9.out rfl (by rfl) ?_; simp only [Act.put, List.setIfInBounds_toArray, List.set_cons_zero, List.set_cons_succ])
      refine (HV1.out _ _ _ _ (OR.out.rd (by omega)) (Nat.le_refl _)).mono ?_
      rintro e w10 ⟨rfl, k10⟩
      have BY10 := hide (BY9.out.kept k10 (fun h => h))
      have O10 := hide (OR.out.kept k10 (fun _ _ h => h))
      have K10 := hide (K9.out.trans k10)
      have NU10 := hide (NU9.out.kept k10 (fun h => h))
      clear k10 BY9 OR K9 NU9 KR HV1
      obtain ⟨k, hk, hk6⟩ : ∃ k : Nat, x % (i : Int) = (k : Int) ∧ k < i := ⟨(x % (i : Int)).toNat, by have := Int.emod_nonneg x (show (i : Int) ≠ 0 by omega); omega, by have := Int.emod_lt_of_pos x (show (0 : Int) < (i : Int) by omega); omega⟩
      have hz := NU10.out.cell k (by rw [HDl.out]; exact hk6)
      have hzb := hbd.out k (by rw [HDl.out]; exact hk6)
      obtain ⟨z, hze⟩ : ∃ z, z = zs.getD k 0 := ⟨_, rfl⟩
      rw [← hze] at hz hzb
      have HZE := hide hze
      have htd : Int.tmod x (i : Int) = (k : Int) := by rw [Int.tmod_eq_emod_of_nonneg x0]; exact hk
      have hi0 : ((i : Int) == 0) = false := by simp; omega
      have hkI : (k : Int) < (i : Int) := by omega
      have hk0 : (0 : Int) ≤ (k : Int) := by omega
      have wk : IntKind.i64.wrap (k : Int) = k := IntWalk.i64_in _ (by omega)
      have wx : IntKind.i64.wrap x = x := IntWalk.i64_in _ (by omega)
      clear hze
      by_cases hz0 : z = 0
      · have e0 : (z == 0) = true := by simp [hz0]
        have HZ0 := hide hz0
        clear hz0
        go_upto_region 16 with fail
        trace "R16"
        go_wp2_with fail
        refine (awake28 _).mono ?_
        rintro e w13 ⟨rfl, k13⟩
        have K13 := hide (K10.out.trans k13)
        clear k13
        go_wp2_with fail
        go_ret
        exact ⟨rfl, K13.out⟩
      · have e0 : (z == 0) = false := by simpa using hz0
        have hz1 : 1 ≤ z := by omega
        clear hz0
        have q14y : w10.cell? ⟨X2, 14, none⟩ = some (.slice (some ⟨G2, 0, none⟩) i c7) := BY10.out.cell 14
        have hX210 : X2 < w10.heap.size := BY10.out.lt
        have hg10 : g1 < w10.heap.size := NU10.out.lt
        have R10 := hide (O10.out.rd (by omega))
        obtain ⟨nl, hnl2⟩ : ∃ nl, nl = i := ⟨_, rfl⟩
        go_upto_region 17 with fail
        trace "R17"
        subst hnl2
        go_upto_region 18 with (at_builtin; refine wpList_app _ elemC28 rfl (.tmp 65) (.tmp 67) rfl w10.heap.size _ rfl (Own.new0 _ _ 46 2 _ (by simp) (by omega)) _ (m := nl) _ rfl (R10.out.kept ((Keeps.refl (fun _ => False) w10).alloc _) (fun _ _ h => h)) (clv_one l) (by simp only [maxLen]; omega) (by omega) (by simp) ?_; intro A7 c9 w7 o7 k7 _; rw [Nat.zero_add, List.nil_append] at o7; have O7 := hide o7; have K7 := hide (((Keeps.refl (fun _ => False) w10).alloc (.cells #[] 46)).step k7 (fun k hk h => by have := (inB_some _ _ _).1 h; omega)); have q14 := (BY10.out.kept K7.out (fun h => h)).cell 14; have f14 := (BY10.out.kept K7.out (fun h => h)).frozen 14; clear o7 k7)
        trace "R18"
        obtain ⟨G3, rfl, hG3a, hG3b⟩ := O7.out.some_ (by omega)
        have kS : Keeps (· = X2) w7 (w7.setCell ⟨X2, 14, none⟩ (.slice (some ⟨G3, 0, none⟩) nl c9)) := Keeps.setCell (S := (· = X2)) (p := ⟨X2, 14, none⟩) (Keeps.refl _ _) (.inl rfl) _
        have BY11 : Hid (Blk (w7.setCell ⟨X2, 14, none⟩ (.slice (some ⟨G3, 0, none⟩) nl c9)) X2 28 #[.int .i64 c.length, .int .i64 c.lateness, .int .i64 c.windows, .int .i64 c.shards, .int .i64 c.spread, .int .i64 c.queue, .int .i64 c.mode, .int .i64 c.slots, .int .i64 c.exact_, .int .u64 c.promote, .int .i64 c.depth, .int .i64 c.width, .int .i64 c.top, .int .i64 c.key, .slice (some ⟨G3, 0, none⟩) nl c9, .slice (some ⟨b, 0, none⟩) 16 16, .int .u64 c.seed]) := (BY10.out.kept K7.out (fun h => h)).set 14 _
        have O11 := hide (O7.out.kept kS (fun b hb => by have := (inB_some _ _ _).1 hb; omega))
        have K11 := hide ((K10.out.trans K7.out).step kS (fun b hb e => by have := K10.out.size; omega))
        have NU11 := hide ((NU10.out.kept K7.out (fun h => h)).kept kS (by omega))
        clear kS O7 q14 f14 BY10 K10 NU10 q14y K7 hz
        generalize w7.setCell _ _ = w11 at *
        have q14 : w11.cell? ⟨X2, 14, none⟩ = some (.slice (some ⟨G3, 0, none⟩) nl c9) := BY11.out.cell 14
        have hz := NU11.out.cell k (by rw [HDl.out]; exact hk6)
        rw [← HZE.out] at hz
        have hkl : k < l.length := by rw [← HNl.out]; exact hk6
        have hcc := (clv_at l k (l[k]'hkl) (by simp)).2
        obtain ⟨tv, htv⟩ : ∃ tv, tv = (l[k]'hkl).2 := ⟨_, rfl⟩
        rw [← htv] at hcc
        have ht := O11.out.cell (k * 2 + 1) (by omega)
        rw [hcc] at ht
        have hf := O11.out.frozen (k * 2 + 1)
        have s1 : IntKind.i64.wrap (z - 1) = z - 1 := IntWalk.i64_in _ (by omega)
        have HO12 : Hid (Own (w11.setCell ⟨G3, k * 2 + 1, none⟩ (.int .i64 (z - 1))) w10.heap.size 46 2 (some ⟨G3, 0, none⟩) nl c9 (clv (putN l k (z - 1)))) := by
          have := O11.out.store (k * 2 + 1) (.int .i64 (z - 1))
          rw [clv_put _ _ _ hkl] at this
          exact this
        have kS : Keeps (· = G3) w11 (w11.setCell ⟨G3, k * 2 + 1, none⟩ (.int .i64 (z - 1))) := Keeps.setCell (S := (· = G3)) (p := ⟨G3, k * 2 + 1, none⟩) (Keeps.refl _ _) (.inl rfl) _
        have BY12 := hide (BY11.out.kept kS (by omega))
        have K12 := hide (K11.out.step kS (fun b hb e => by omega))
        have HV := hide (HV2.out k (z - 1) hkl (by omega) (by rw [← HZE.out]; omega))
        clear kS hcc htv hkl HV2
        trace "R18b"
        go_upto_region 19 with fail
        go_region
        trace "R19"
        have B13 : Hid (Blk (w11.setCell ⟨G3, k * 2 + 1, none⟩ (.int .i64 (z - 1))).drew X2 28 #[.int .i64 c.length, .int .i64 c.lateness, .int .i64 c.windows, .int .i64 c.shards, .int .i64 c.spread, .int .i64 c.queue, .int .i64 c.mode, .int .i64 c.slots, .int .i64 c.exact_, .int .u64 c.promote, .int .i64 c.depth, .int .i64 c.width, .int .i64 c.top, .int .i64 c.key, .slice (some ⟨G3, 0, none⟩) nl c9, .slice (some ⟨b, 0, none⟩) 16 16, .int .u64 c.seed]) := BY12
        have O13 : Hid (Own (w11.setCell ⟨G3, k * 2 + 1, none⟩ (.int .i64 (z - 1))).drew w10.heap.size 46 2 (some ⟨G3, 0, none⟩) nl c9 (clv (putN l k (z - 1)))) := HO12
        have K13 := hide (K12.out.drew)
        clear BY12 HO12 K12 BY11 O11 K11 NU11 q14 hz ht hf
        generalize (w11.setCell _ _).drew = w13 at *
        go_wp2_with (refine cfg_ld _ rfl B13.out rfl (by rfl) ?_; simp only [Act.put, List.setIfInBounds_toArray, List.set_cons_zero, List.set_cons_succ])
        trace "VAL"
        refine (HV.out _ _ _ _ (O13.out.rd (by omega)) (Nat.le_refl _)).mono ?_
        rintro e w14 ⟨rfl, k14⟩
        have K14 := hide (K13.out.trans k14)
        clear k14
        go_wp2_with fail
        trace "AWAKE"
        refine (awake28 _).mono ?_
        rintro e w15 ⟨rfl, k15⟩
        have K15 := hide (K14.out.trans k15)
        clear k15
        go_wp2_with fail
        go_ret
        exact ⟨rfl, K15.out⟩
theorem walk (w : World) (A1 : Option Addr) (n1 c1 : Nat) (z1 : List Int) (r1 : Rd w w.heap.size A1 1 n1 (z1.map (.int .i64))) (b1 : ∀ z ∈ z1, -9223372036854775808 ≤ z ∧ z < 9223372036854775808) (s1 : n1 * 8 ≤ 140737488351232) (l1 : n1 ≤ c1)
    (x : Int) (x0 : 0 ≤ x) (x1 : x < 256) :
    Calls Try.prog 8 #[.slice A1 n1 c1, .int .u8 x] w fun e w' => e = .returned (.bool true) ∧ Below w.heap.size w w' :=
  (main w A1 n1 c1 z1 r1 b1 (by omega) x x0 x1).mono fun e w' ⟨he, hk⟩ => ⟨he, hk.done⟩
end sizingTight
end Go.Proofs.Ytgjlibecgkhocaa
