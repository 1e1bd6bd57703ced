/-
  SizingFits: the demand is what an arena can have; the walk. No conditions beyond those of the statement.
-/
import Derived.Test.YtgjlibecgkhocaaGt
import Derived.Test.YtgjlibecgkhocaaFs
set_option linter.unusedVariables false
set_option linter.unusedSimpArgs false
namespace Go.Proofs.Ytgjlibecgkhocaa
open Go.RowKit Cfp
theorem prs_clv (l : List (Int × Int)) : prs l = clv l := by
  induction l with
  | nil => rfl
  | cons x l ih => simp only [prs, List.flatMap_cons, clv]; rw [← ih]; rfl
theorem field_u0 (x y z : Value) (w : World) : (Instr.field 62 (.agg #[x, y, z]) 0).run Try.prog w = .ok x w := by
  kernel_rfl
theorem ArS.own {w w' : World} {B base n c sz : Nat} {e : TypeId} {A : Option Addr} {xs : List Value} (h : Own w base e sz A n c xs) (k : Keeps (ArS B w) w w') (h1 : e ≠ 86) (h2 : e ≠ 89) (h3 : e ≠ 93) : Own w' base e sz A n c xs :=
  h.kept k (fun b hb hS => by
    obtain ⟨cs, h4⟩ := h.blk hb
    exact ArS.not h4 h1 h2 h3 hS)
theorem ArS.toF {B : Nat} {w0 w w' : World} (k0 : Keeps (fun _ => False) w0 w) (k : Keeps (ArS B w) w w') (hB : w0.heap.size ≤ B) : Keeps (fun _ => False) w0 w' :=
  k0.step k (fun b hb h => by have := h.1; omega)
/-- the slots that are taken while class i is filled -/
def md (zs : List Int) (i k : Nat) : Nat → Nat := fun j => if j < i then (zs.getD j 0).toNat else if j = i then k else 0
theorem md_zero (zs : List Int) : md zs 0 0 = fun _ => 0 := by funext j; simp [md]
theorem md_plus (zs : List Int) (i k : Nat) : plus1 (md zs i k) i = md zs i (k + 1) := by
  funext j
  simp only [plus1, md]
  by_cases e : j = i
  · subst e; simp
  · by_cases h : j < i <;> simp [e, h]
theorem md_next (zs : List Int) (i : Nat) : md zs i (zs.getD i 0).toNat = md zs (i + 1) 0 := by
  funext j
  simp only [md]
  by_cases e : j = i
  · subst e; simp
  · by_cases h : j < i
    · simp [h, show j < i + 1 by omega]
    · simp [e, h, show ¬ j < i + 1 by omega]
theorem md_at (zs : List Int) (i k : Nat) : md zs i k i = k := by simp [md]
theorem ups_made (l : List (Int × Int)) (hl : l.map Prod.fst = [8, 24, 32, 80, 256] ∨ l.map Prod.fst = [256]) : Ups l := by
  have key : ∀ (m : List Int), l.map Prod.fst = m → (∀ i j a b, i < j → m[i]? = some a → m[j]? = some b → a < b) → Ups l := fun m hm h i j x y hij hx hy =>
    h i j x.1 y.1 hij (by rw [← hm, List.getElem?_map, hx]; rfl) (by rw [← hm, List.getElem?_map, hy]; rfl)
  rcases hl with hl | hl
  · refine key _ hl (fun i j a b hij ha hb => ?_)
    rcases j with _ | _ | _ | _ | _ | j
    · omega
    all_goals (rcases i with _ | _ | _ | _ | i)
    all_goals first | omega | (simp at ha hb <;> omega)
  · refine key _ hl (fun i j a b hij ha hb => ?_)
    rcases j with _ | j
    · omega
    · simp at hb
namespace sizingFits
set_option maxRecDepth 100000 in
set_option maxHeartbeats 3000000 in
theorem main (w : World) (A1 : Option Addr) (n1 c1 : Nat) (zs0 : List Int) (hd : Rd w w.heap.size A1 1 n1 (zs0.map (.int .i64))) (hz : ∀ z ∈ zs0, -9223372036854775808 ≤ z ∧ z < 9223372036854775808) (hn1 : n1 ≤ 17592186043904) :
    Calls Try.prog 10 #[.slice A1 n1 c1] w fun e w' => e = .returned (.bool true) ∧ Keeps (fun _ => False) w w' := by
  have HD := hide hd
  clear hd
  go_enter Try.func10, Try.ntmps10
  go_wp2_with fail
  refine (new_deck A1 n1 c1 zs0 _ w (Nat.le_refl _) HD.out hz (by omega)).mono ?_
  rintro e w1 ⟨rfl, d1, k1⟩
  have K1 := hide k1
  clear k1
  go_wp2_with fail
  refine (config_any _ w.heap.size w1 d1).mono ?_
  rintro e w2 ⟨c, l, G, b, ts, rfl, hm, hl, hsn, hG, bG, tl, tb, bt, hb, d2, k2⟩
  have K2 := hide (K1.out.step k2 (fun b hb e => by omega))
  have HM := hide hm
  have HCo := hide (made_counts c hm.fine l hsn)
  have HCl := hide (made_ok l hl (made_counts c hm.fine l hsn))
  have HRm := hide (made_room c hm.width hm.fine.key.2 l hl)
  have HUp := hide (ups_made l hl)
  have hn8 : l.length ≤ 8 ∧ 1 ≤ l.length := by obtain ⟨p, d, h1, _, _, h2⟩ := made_last l hl; omega
  obtain ⟨nl, hnl⟩ : ∃ nl, nl = l.length := ⟨_, rfl⟩
  rw [← hnl] at hn8 ⊢
  have HNl := hide hnl
  have BX := hide (Blk.new w2 28 #[.int .i64 c.length, .int .i64 c.lateness, .int .i64 c.windows, .int .i64 c.shards, .int .i64 c.spread, .int .i64 c.queue, .int .i64 c.mode, .int .i64 c.slots, .int .i64 c.exact_, .int .u64 c.promote, .int .i64 c.depth, .int .i64 c.width, .int .i64 c.top, .int .i64 c.key, .slice (some ⟨G, 0, none⟩) nl nl, .slice (some ⟨b, 0, none⟩) 16 16, .int .u64 c.seed])
  have kX := (Keeps.refl (fun _ => False) w2).alloc (.cells #[.int .i64 c.length, .int .i64 c.lateness, .int .i64 c.windows, .int .i64 c.shards, .int .i64 c.spread, .int .i64 c.queue, .int .i64 c.mode, .int .i64 c.slots, .int .i64 c.exact_, .int .u64 c.promote, .int .i64 c.depth, .int .i64 c.width, .int .i64 c.top, .int .i64 c.key, .slice (some ⟨G, 0, none⟩) nl nl, .slice (some ⟨b, 0, none⟩) 16 16, .int .u64 c.seed] 28)
  have RC := hide (show Rd (w2.alloc (.cells #[.int .i64 c.length, .int .i64 c.lateness, .int .i64 c.windows, .int .i64 c.shards, .int .i64 c.spread, .int .i64 c.queue, .int .i64 c.mode, .int .i64 c.slots, .int .i64 c.exact_, .int .u64 c.promote, .int .i64 c.depth, .int .i64 c.width, .int .i64 c.top, .int .i64 c.key, .slice (some ⟨G, 0, none⟩) nl nl, .slice (some ⟨b, 0, none⟩) 16 16, .int .u64 c.seed] 28)) w2.heap.size (some ⟨G, 0, none⟩) 2 nl (clv l) from (bG.rd (n := nl) (sz := 2) (by rw [clv_len, hnl])).kept kX (fun _ _ h => h))
  have K3 := hide (K2.out.trans kX)
  have hwX : w.heap.size < w2.heap.size := by have := d2.lt; omega
  have HSn := hide hsn
  have HDl := hide (show (demand0 c l).length = nl by rw [demand0_len, hnl])
  have HDc := hide (fun W hr hB => sdemand_ok c HM.out.fine l HCl.out HRm.out (some ⟨G, 0, none⟩) (some ⟨b, 0, none⟩) nl nl 16 w2.heap.size W hr hB)
  have hbd := hide (demand_bd c HM.out.fine l)
  have HBd := hide (classes_bd2 l HCl.out).2
  obtain ⟨zs, hzs⟩ : ∃ zs, zs = demand0 c l := ⟨_, rfl⟩
  rw [← hzs] at HSn HDl HDc hbd
  clear hl hsn hG bG bt hb d2 k2 hm hnl K2 K1 d1 kX tl tb hzs HM HCo HRm
  go_upto_region 2 with (refine cfg_st _ _ rfl (by rfl) (by rfl) (by rfl) (by rfl) ?_; simp only [Act.put, List.setIfInBounds_toArray, List.set_cons_zero, List.set_cons_succ])
  generalize w2.alloc _ = w3 at *
  generalize w2.heap.size = X1 at *
  have hX13 : X1 < w3.heap.size := BX.out.lt
  have q7 : w3.cell? ⟨X1, 7, none⟩ = some (.int .i64 c.slots) := BX.out.cell 7
  have q3 : w3.cell? ⟨X1, 3, none⟩ = some (.int .i64 c.shards) := BX.out.cell 3
  have q5 : w3.cell? ⟨X1, 5, none⟩ = some (.int .i64 c.queue) := BX.out.cell 5
  trace "R2"
  by_cases hg : 2 < c.slots ∨ 2 < c.shards ∨ 8 < c.queue
  · have hgo : Hid (∀ (K : Prop), K → K) := fun _ h => h
    rcases Decidable.em (2 < c.slots) with h1 | h1
    · have e1 : decide ((2 : Int) < c.slots) = true := by simpa using h1
      go_wp2_with fail
      refine (awake28 _).mono ?_
      rintro e w5 ⟨rfl, k5⟩
      have K5 := hide (K3.out.trans k5)
      clear k5
      go_wp2_with fail
      go_ret
      exact ⟨rfl, K5.out⟩
    · have e1 : decide ((2 : Int) < c.slots) = false := by simpa using h1
      rcases Decidable.em (2 < c.shards) with h2 | h2
      · have e2 : decide ((2 : Int) < c.shards) = true := by simpa using h2
        go_wp2_with fail
        refine (awake28 _).mono ?_
        rintro e w5 ⟨rfl, k5⟩
        have K5 := hide (K3.out.trans k5)
        clear k5
        go_wp2_with fail
        go_ret
        exact ⟨rfl, K5.out⟩
      · have e2 : decide ((2 : Int) < c.shards) = false := by simpa using h2
        have e3 : decide ((8 : Int) < c.queue) = true := by simp; omega
        go_wp2_with fail
        refine (awake28 _).mono ?_
        rintro e w5 ⟨rfl, k5⟩
        have K5 := hide (K3.out.trans k5)
        clear k5
        go_wp2_with fail
        go_ret
        exact ⟨rfl, K5.out⟩
  have e1 : decide ((2 : Int) < c.slots) = false := by simp; omega
  have e2 : decide ((2 : Int) < c.shards) = false := by simp; omega
  have e3 : decide ((8 : Int) < c.queue) = false := by simp; omega
  clear hg
  go_upto_region 4 with fail
  trace "R4"
  clear q7 q3 q5 e1 e2 e3
  go_wp2_with (refine cfg_ld _ rfl BX.out rfl (by rfl) ?_; simp only [Act.put, List.setIfInBounds_toArray, List.set_cons_zero, List.set_cons_succ])
  trace "DEMAND"
  refine (HDc.out _ RC.out (by omega)).mono ?_
  rintro e w4 ⟨g1, rfl, hg1, nu, k4⟩
  have BX4 := hide (BX.out.kept k4 (fun h => h))
  have RC4 := hide (RC.out.kept k4 (fun _ _ h => h))
  have K4 := hide (K3.out.trans k4)
  have NU4 := hide nu
  have q14 : w4.cell? ⟨X1, 14, none⟩ = some (.slice (some ⟨G, 0, none⟩) nl nl) := BX4.out.cell 14
  have hX14 : X1 < w4.heap.size := BX4.out.lt
  have hnn : ((nl : Int) != (nl : Int)) = false := by simp
  have hg14 : g1 < w4.heap.size := NU4.out.lt
  clear nu k4 BX RC K3 HDc
  go_upto_region 5 with fail
  trace "R5"
  go_upto_region 6 with (at_builtin; refine wpList_app _ elemC28 rfl (.tmp 36) (.tmp 38) rfl w4.heap.size _ rfl (Own.new0 _ _ 46 2 _ (by simp) (by omega)) _ (m := nl) _ rfl (RC4.out.kept ((Keeps.refl (fun _ => False) w4).alloc _) (fun _ _ h => h)) (clv_one l) (by simp only [maxLen]; omega) (by omega) (by simp) ?_; intro A7 c7 w7 o7 k7 _; rw [Nat.zero_add, List.nil_append] at o7; have O7 := hide o7; have K7 := hide (((Keeps.refl (fun _ => False) w4).alloc (.cells #[] 46)).step k7 (fun k hk h => by have := (inB_some _ _ _).1 h; omega)); clear o7 k7)
  trace "R6"
  obtain ⟨G2, rfl, hG2a, hG2b⟩ := O7.out.some_ (by omega)
  have K8 := hide (K4.out.trans K7.out)
  have NU8 := hide (NU4.out.kept K7.out (fun h => h))
  have O8 := O7
  have hG2g : g1 ≠ G2 := by omega
  have hncc := O8.out.le
  have hw74 : w4.heap.size ≤ w7.heap.size := K7.out.size
  clear O7 q14 K4 NU4 BX4 RC4 K7
  go_upto_region 9 with fail
  trace "R9"
  go_wp2_with fail
  trace "LOOP"
  go_loopw [7, 51] (fun _ iv wr => ∃ i : Nat, i ≤ nl ∧ iv = .int .i64 i ∧ Hid (Own wr w4.heap.size 46 2 (some ⟨G2, 0, none⟩) nl c7 (clv l)) ∧ Hid (Keeps (· = G2) w7 wr)) (fun _ iv _ => nl - (intOf iv).toNat)
  case atStart => exact ⟨0, by omega, rfl, O8, hide (Keeps.refl _ _)⟩
  case round =>
    obtain ⟨i, hi, rfl, OR, KR⟩ := hrel
    by_cases hlt : i < nl
    · have HLT : Hid (i + 1 ≤ nl) := hlt
      have hil : i < l.length := by rw [← HNl.out]; exact hlt
      have hz := (NU8.out.kept KR.out (by omega)).cell i (by rw [HDl.out]; exact hlt)
      obtain ⟨z, hze⟩ : ∃ z, z = zs.getD i 0 := ⟨_, rfl⟩
      rw [← hze] at hz
      have hlz : l[i].2 = z := by
        have := congrArg (fun m => m[i]?) HSn.out
        have h2 : i < zs.length := by rw [HDl.out]; exact hlt
        simp [hil, h2] at this
        rw [hze, this]; simp [List.getD, h2]
      have hcc := (clv_at l i (l[i]'hil) (by simp)).2
      rw [hlz] at hcc
      have ht := OR.out.cell (i * 2 + 1) (by omega)
      rw [hcc] at ht
      have hf := OR.out.frozen (i * 2 + 1)
      have HSS : Hid (Own (wr.setCell ⟨G2, i * 2 + 1, none⟩ (.int .i64 z)) w4.heap.size 46 2 (some ⟨G2, 0, none⟩) nl c7 (clv l)) := by
        have := OR.out.store (i * 2 + 1) (.int .i64 z)
        rw [set_same _ _ _ hcc] at this
        exact this
      have kS : Keeps (· = G2) wr (wr.setCell ⟨G2, i * 2 + 1, none⟩ (.int .i64 z)) := Keeps.setCell (S := (· = G2)) (p := ⟨G2, i * 2 + 1, none⟩) (Keeps.refl _ _) (.inl rfl) _
      have KS := hide kS
      have hi0 : (0 : Int) ≤ (i : Int) := by omega
      have hi1 : (i : Int) < (nl : Int) := by omega
      clear hze hcc kS hil hlz
      go_wp2_with fail
      trace "ROUND"
      go_roundw
      case rel => exact ⟨i + 1, HLT.out, by go_num, HSS, hide (KR.out.trans KS.out)⟩
      case measure => have := HLT.out; simp [intOf]; omega
    · obtain rfl : i = nl := by omega
      trace "EXIT"
      have K9 := hide (K8.out.step KR.out (fun b hb e => by omega))
      have NU9 := hide (NU8.out.kept KR.out (by omega))
      have hs9 : w7.heap.size ≤ wr.heap.size := KR.out.size
      clear O8 K8 NU8
      go_upto_region 13 with fail
      go_wp2_with fail
      trace "NEW"
      have hrp : Rd wr wr.heap.size (some ⟨G2, 0, none⟩) 2 i (prs l) := by rw [prs_clv]; exact OR.out.rd (by omega)
      refine (anew_ok l HCl.out (some ⟨G2, 0, none⟩) i c7 wr.heap.size wr hrp (Nat.le_refl _)).mono ?_
      rintro e w10 ⟨a, CA, cap, rfl, h10, k10⟩
      obtain ⟨B, hBe⟩ : ∃ B, B = wr.heap.size := ⟨_, rfl⟩
      rw [← hBe] at h10
      have hwB : w.heap.size ≤ B := by rw [hBe]; exact K9.out.size
      have hB10 : B ≤ w10.heap.size := by rw [hBe]; exact k10.size
      have hcl : (parAr l i CA cap).cls.length = i := by simp [parAr]; have := HNl.out; omega
      obtain ⟨C, hC⟩ := h10.own.some_ (by rw [hcl]; omega)
      have F10 := hide (by have := Fl.start l CA cap C hC.1 (by rw [← HNl.out]; omega); rw [← HNl.out] at this; exact this)
      have H10 := hide h10
      have O10 := hide (OR.out.kept k10 (fun _ _ h => h))
      have NU10 := hide (NU9.out.kept k10 (fun h => h))
      have K10 := hide (K9.out.trans k10)
      clear h10 k10 hC hrp hBe hcl OR KR NU9 K9
      go_upto_region 16 with fail
      trace "R16"
      go_wp2_with fail
      trace "OUTER"
      have hB10' : w.heap.size ≤ w10.heap.size := K10.out.size
      have hg10 : g1 < w10.heap.size := NU10.out.lt
      go_loopw [10, 11, 12, 13, 76] (fun _ _ _ _ iv wr => ∃ (j : Nat) (s : Ar), j ≤ i ∧ iv = .int .i64 j ∧ Hid (IsAr wr B a s) ∧ Hid (Fl s l C (md zs j 0)) ∧ Hid (Own wr w4.heap.size 46 2 (some ⟨G2, 0, none⟩) i c7 (clv l)) ∧ Hid (Nums wr g1 zs) ∧ Hid (Keeps (fun _ => False) w wr) ∧ B ≤ wr.heap.size) (fun _ _ _ _ iv _ => i - (intOf iv).toNat)
      case atStart => exact ⟨0, _, by omega, rfl, H10, hide (by rw [md_zero]; exact F10.out), O10, NU10, K10, hB10⟩
      case round =>
        obtain ⟨j, s, hj, rfl, HA, HF, HO, HN, HK, hBr⟩ := hrel
        clear H10 F10 O10 NU10 K10
        by_cases hlt : j < i
        · have HLT : Hid (j + 1 ≤ i) := hlt
          have hjl : j < l.length := by rw [← HNl.out]; exact hlt
          have hz := HN.out.cell j (by rw [HDl.out]; exact hlt)
          have hzb := hbd.out j (by rw [HDl.out]; exact hlt)
          obtain ⟨x, hx⟩ : ∃ x, l[j]? = some x := ⟨l[j]'hjl, by simp⟩
          have hxz : x.2 = zs.getD j 0 := by
            have h1 := congrArg (fun m => m[j]?) HSn.out
            have h2 : j < zs.length := by rw [HDl.out]; exact hlt
            simp [hx, h2] at h1
            rw [h1]; simp [List.getD, h2]
          obtain ⟨z, hze⟩ : ∃ z : Nat, zs.getD j 0 = (z : Int) := ⟨(zs.getD j 0).toNat, by omega⟩
          rw [hze] at hz hzb hxz
          have HX := hide hx
          have HXb := hide (HBd.out x (List.mem_of_getElem? hx))
          have HXz := hide hxz
          have HZe := hide hze
          have hji : (j : Int) < (i : Int) := by omega
          have hj0 : (0 : Int) ≤ (j : Int) := by omega
          clear hx hxz hze
          go_upto_region 19 with fail
          trace "R19"
          go_loopw [11, 12, 13] (fun nv _ _ w' => ∃ (k : Nat) (s : Ar), k ≤ z ∧ nv = .int .i64 ((z : Int) - k) ∧ Hid (IsAr w' B a s) ∧ Hid (Fl s l C (md zs j k)) ∧ Hid (Own w' w4.heap.size 46 2 (some ⟨G2, 0, none⟩) i c7 (clv l)) ∧ Hid (Nums w' g1 zs) ∧ Hid (Keeps (fun _ => False) w w') ∧ B ≤ w'.heap.size) (fun nv _ _ _ => (intOf nv).toNat)
          case atStart => exact ⟨0, s, by omega, by simp, HA, HF, HO, HN, HK, hBr⟩
          case round =>
            obtain ⟨k, s2, hk, rfl, HA2, HF2, HO2, HN2, HK2, hBr2⟩ := hrel
            clear HA HF HO HN HK
            by_cases hkz : k < z
            · have HLK : Hid (k + 1 ≤ z) := hkz
              have e1 : decide ((0 : Int) < (z : Int) - k) = true := by simp; omega
              have wk : IntKind.i64.wrap ((z : Int) - k - 1) = (z : Int) - ((k + 1 : Nat) : Int) := by rw [IntWalk.i64_in _ (by omega)]; omega
              have q0 := HO2.out.cell (j * 2) (by omega)
              rw [(clv_at l j x HX.out).1] at q0
              go_wp2_with fail
              trace "ALLOC"
              have hmj : md zs j k j = k := md_at zs j k
              refine (fl_alloc B a s2 l C _ j x _ HA2.out HF2.out (by rw [← HNl.out]; omega) HUp.out HX.out HXb.out.1 HXb.out.2.2.2 (by rw [hmj, HXz.out]; omega) hBr2).mono ?_
              rintro e w12 ⟨rfl, ⟨s3, h3, f3⟩, k3⟩
              rw [hmj]
              rw [md_plus] at f3
              have ka := (Keeps.refl (fun _ => False) w12).alloc (.cells #[.int .i64 j, .int .i64 k, .int .i64 1] 58)
              have Y3 := hide (Blk.new w12 58 #[.int .i64 j, .int .i64 k, .int .i64 1])
              have H3 := hide (h3.quiet ka)
              have F3 := hide f3
              have O3 := hide ((HO2.out.kept k3 (fun b hb hS => by obtain ⟨cs, h4⟩ := HO2.out.blk hb; exact ArS.not h4 (by decide) (by decide) (by decide) hS)).kept ka (fun _ _ h => h))
              have N3 := hide ((HN2.out.kept k3 (fun hS => ArS.not HN2.out (by decide) (by decide) (by decide) hS)).kept ka (fun h => h))
              have K3 := hide ((ArS.toF HK2.out k3 hwB).trans ka)
              have hBr3 : B ≤ (w12.alloc (.cells #[.int .i64 j, .int .i64 k, .int .i64 1] 58)).heap.size := by have := k3.size; simp; omega
              clear h3 f3 k3 ka HA2 HF2 HO2 HN2 HK2 hmj q0
              go_upto_region 22 with fail
              trace "R22"
              generalize w12.alloc _ = w13 at *
              generalize w12.heap.size = Y at *
              obtain ⟨⟨r0, r1, r2⟩, _, hY⟩ := Y3.out.three
              go_wp2_with fail
              trace "RND2"
              go_roundw
              case rel => exact ⟨k + 1, s3, HLK.out, by first | rfl | go_num, H3, F3, O3, N3, K3, hBr3⟩
              case measure => simp [intOf]; omega
            · obtain rfl : k = z := by omega
              have e1 : decide ((0 : Int) < (k : Int) - k) = false := by simp
              go_wp2_with fail
              trace "OUT2"
              go_roundw
              case rel =>
                refine ⟨j + 1, s2, HLT.out, by go_num, HA2, hide ?_, HO2, HN2, HK2, hBr2⟩
                have := HF2.out
                rw [← md_next, HZe.out, Int.toNat_natCast]
                exact this
              case measure => have := HLT.out; simp [intOf]; omega
        · obtain rfl : j = i := by omega
          trace "END"
          have hmz : ∀ q (hq : q < zs.length), (md zs j 0 q : Int) = zs[q] := fun q hq => by
            have h1 := hbd.out q hq
            have h2 : q < j := by rw [← HDl.out]; exact hq
            simp only [md, if_pos h2]
            have h3 : zs.getD q 0 = zs[q] := by simp [List.getD, hq]
            rw [h3] at h1 ⊢
            omega
          have hsm : Small s := HF.out.small (by rw [← HNl.out]; omega) HBd.out (fun q hq => by
            have hq2 : q < zs.length := by rw [HDl.out, HNl.out]; exact hq
            rw [hmz q hq2]
            have h1 := congrArg (fun m => m[q]?) HSn.out
            simp [hq, hq2] at h1
            omega)
          have hsl : s.cls.length = j := by rw [HF.out.hn, ← HNl.out]
          have hlv := HF.out.lives zs (by rw [HDl.out]; exact HNl.out) hmz
          obtain ⟨nb, hnb⟩ : ∃ nb, nb = bytesN s.cls s.cls.length := ⟨_, rfl⟩
          have HU0 := usage_any B a s wr HA.out hsm
          unfold Usages at HU0
          rw [← hnb, hlv, hsl] at HU0
          have HU := hide HU0
          obtain ⟨fa, hfa⟩ : ∃ fa, fa = s.faults := ⟨_, rfl⟩
          rw [← hfa] at HU
          clear HU0 hmz hsm hsl hlv hnb hfa HA HF HO
          have hfu := fun x y z w => field_u0 x y z w
          go_wp2_with fail
          trace "USAGE"
          refine HU.out.mono ?_
          rintro e w12 ⟨D, m, rfl, o12, k12⟩
          have R12 := hide (o12.rd (by omega))
          have N12 := hide (HN.out.kept k12 (fun h => h))
          have K12 := hide (HK.out.trans k12)
          clear o12 k12 HU HN HK
          go_wp2_with fail
          trace "SAME"
          refine (sameInts_any zs D (some ⟨g1, 0, none⟩) j m j _ _ w12 R12.out (N12.out.rd (xs := zs.map (.int .i64)) (by simp [HDl.out])) (by omega)).mono ?_
          rintro e w13 ⟨rfl, nq, rfl⟩
          have K13 := hide (K12.out.drewN nq)
          clear R12 N12 K12
          go_wp2_with fail
          trace "AWAKE"
          refine (awake28 _).mono ?_
          rintro e w14 ⟨rfl, k14⟩
          have K14 := hide (K13.out.trans k14)
          clear k14
          go_wp2_with fail
          go_ret
          exact ⟨rfl, K14.out⟩
theorem walk (w : World) (A1 : Option Addr) (n1 c1 : Nat) (z1 : List Int) (r1 : Rd w w.heap.size A1 1 n1 (z1.map (.int .i64))) (b1 : ∀ z ∈ z1, -9223372036854775808 ≤ z ∧ z < 9223372036854775808) (s1 : n1 * 8 ≤ 140737488351232) (l1 : n1 ≤ c1) :
    Calls Try.prog 10 #[.slice A1 n1 c1] w fun e w' => e = .returned (.bool true) ∧ Below w.heap.size w w' :=
  (main w A1 n1 c1 z1 r1 b1 (by omega)).mono fun e w' ⟨he, hk⟩ => ⟨he, hk.done⟩
end sizingFits
end Go.Proofs.Ytgjlibecgkhocaa
