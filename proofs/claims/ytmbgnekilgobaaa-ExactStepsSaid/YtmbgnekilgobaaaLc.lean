
/-
  slices.SortStableFunc's parts: the sort by insertion. No conditions beyond those of the statement.
-/
import Derived.Test.YtmbgnekilgobaaaLb
set_option linter.unusedVariables false
set_option linter.unusedSimpArgs false
namespace Go.Proofs.Ytmbgnekilgobaaa
open Go.RowKit
/-- the function that compares -/
abbrev cmpV : Value := .func (.func 58) #[] #[]
abbrev srtL (l : List Ln) : List Ln := Srt.srt lnLt l
set_option maxRecDepth 100000 in
set_option maxHeartbeats 2000000 in
theorem insertion_ok (w : World) (B : Nat) (A : Option Addr) (n c : Nat) (P Mi Q : List Ln) (a b : Nat) (ha : a = P.length) (hb : b = P.length + Mi.length) (h : Lns w B A n c (P ++ Mi ++ Q)) (hn : n ≤ 1000000) :
    Calls Try.prog 83 #[.slice A n c, .int .i64 a, .int .i64 b, cmpV] w fun e w' => e = .returned (.tuple #[]) ∧ Lns w' B A n c (P ++ srtL Mi ++ Q) ∧ Keeps (inB A) w w' := by
  have hl := h.len
  simp only [List.length_append] at hl
  obtain ⟨m, hm⟩ : ∃ m, m = Mi.length := ⟨_, rfl⟩
  have H := hide h
  have HA := hide ha
  have HM := hide hm
  have hbm : b = a + m := by omega
  have hbn : b ≤ n := by omega
  have han : a ≤ n := by omega
  have HBM := hide hbm
  clear h ha hb hl hm hbm
  have hs1 : Hid (srtL (Mi.take 1) ++ Mi.drop 1 = Mi) := hide (by
    rcases Mi with _ | ⟨x, Mi⟩
    · rfl
    · show Srt.srt lnLt [x] ++ Mi = x :: Mi
      rw [Srt.srt_one]
      rfl)
  go_enter Try.func83, Try.ntmps83
  go_upto_region 1 with fail
  trace "LOOP"
  go_loopw [8, 9] (fun iv _ wr => ∃ k i : Nat, 1 ≤ k ∧ (k ≤ m ∨ k = 1) ∧ iv = .int .i64 (i : Int) ∧ Hid (i = a + k) ∧ Hid (Lns wr B A n c (P ++ (srtL (Mi.take k) ++ Mi.drop k) ++ Q)) ∧ Hid (Keeps (inB A) w wr)) (fun iv _ _ => b - (intOf iv).toNat)
  case atStart => exact ⟨1, a + 1, by omega, .inr rfl, by go_num, hide rfl, hide (by rw [hs1.out]; exact H.out), hide (Keeps.refl _ _)⟩
  case round =>
    obtain ⟨k, i, hk1, hkm, rfl, HIK, HL, HK⟩ := hrel
    by_cases hlt : k < m
    · have HLT : Hid (k + 1 ≤ m) := hlt
      have e1 : decide (i < b) = true := by have := HIK.out; have := HBM.out; simp; omega
      have hib : i < b := by have := HIK.out; have := HBM.out; omega
      have hai : a + 1 ≤ i := by have := HIK.out; omega
      obtain ⟨g, rfl, _⟩ := HL.out.some_ (by omega)
      obtain ⟨x, hx⟩ : ∃ x, Mi[k]? = some x := ⟨Mi[k]'(by rw [← HM.out]; exact hlt), by simp⟩
      have hdr : Mi.drop k = x :: Mi.drop (k + 1) := by
        rw [List.drop_eq_getElem_cons (by rw [← HM.out]; exact hlt)]
        congr 1
        exact (List.getElem?_eq_some_iff.1 hx).2
      have hta : Mi.take (k + 1) = Mi.take k ++ [x] := by rw [List.take_add_one, hx]; rfl
      obtain ⟨S, hS⟩ : ∃ S, S = srtL (Mi.take k) := ⟨_, rfl⟩
      have hsd : Srt.Sd lnLt S := by rw [hS]; exact Srt.srt_sd lnLt_wk _
      have hSl : S.length = k := by rw [hS, Srt.srt_len, List.length_take]; have := HM.out; omega
      have HSn : Hid (∀ S1 S2, S1 ++ S2 = S → (∀ y ∈ S2, lnLt x y = true) → (∀ y ∈ S1, lnLt x y = false) → srtL (Mi.take (k + 1)) = S1 ++ x :: S2) := hide (fun S1 S2 e h2 h1 => by
        show Srt.srt lnLt _ = _
        rw [hta, Srt.srt_snoc, show Srt.srt lnLt (Mi.take k) = S from hS.symm, ← e]
        exact Srt.mrg_in S1 S2 x h1 h2)
      have HL0 : Hid (Lns wr B (some ⟨g, 0, none⟩) n c (P ++ (S ++ x :: []) ++ (Mi.drop (k + 1) ++ Q))) := hide (by
        have := HL.out
        rw [← hS, hdr] at this
        simpa using this)
      have HSd := hide hsd
      have HSl := hide hSl
      clear hx hdr hta hS hsd hSl HL hs1 H
      obtain ⟨rest, hrest⟩ : ∃ rest, rest = Mi.drop (k + 1) ++ Q := ⟨_, rfl⟩
      rw [← hrest] at HL0
      have HRest := hide hrest
      clear hrest
      go_upto_region 4 with fail
      trace "INNER"
      go_loopw [9] (fun jv wr => ∃ (j : Nat) (S1 S2 : List Ln), j ≤ i ∧ a ≤ j ∧ jv = .int .i64 (j : Int) ∧ Hid (S1 ++ S2 = S ∧ j = a + S1.length ∧ ∀ y ∈ S2, lnLt x y = true) ∧ Hid (Lns wr B (some ⟨g, 0, none⟩) n c (P ++ (S1 ++ x :: S2) ++ rest)) ∧ Hid (Keeps (inB (some ⟨g, 0, none⟩)) w wr)) (fun jv _ => (intOf jv).toNat)
      case atStart => exact ⟨i, S, [], by omega, by omega, rfl, hide ⟨by simp, by rw [HSl.out]; exact HIK.out, by simp⟩, HL0, HK⟩
      case round =>
        obtain ⟨j, S1, S2, hj1, hj2, rfl, HF, HLj, HKj⟩ := hrel
        clear HL0 HK
        rcases eS : S1 with _ | ⟨z, S1z⟩
        · subst eS
          have hja : j = a := by have := HF.out.2.1; simpa using this
          have e2 : decide (a < j) = false := by simp; omega
          have HR : Hid (srtL (Mi.take (k + 1)) = x :: S2) := hide (by have := HSn.out [] S2 HF.out.1 HF.out.2.2 (by simp); simpa using this)
          clear hja
          go_upto_region 4 with fail
          go_quiet (fail)
          go_wp2_with fail
          trace "EXIT1"
          go_roundw
          case rel =>
            refine ⟨k + 1, i + 1, by omega, .inl HLT.out, by go_num, hide (by have := HIK.out; omega), hide ?_, hide (HKj.out.drewN _)⟩
            show Lns wr B _ n c _
            have := HLj.out
            rw [HRest.out] at this
            rw [HR.out]
            simpa using this
          case measure => have := HLT.out; have := HIK.out; have := HBM.out; simp [intOf]; omega
        · obtain ⟨S1', y, hS1⟩ : ∃ S1' y, S1 = S1' ++ [y] := ⟨S1.dropLast, S1.getLast (by rw [eS]; simp), (List.dropLast_concat_getLast _).symm⟩
          obtain ⟨p, hp⟩ : ∃ p, p = a + S1'.length := ⟨_, rfl⟩
          have hjp : j = p + 1 := by have := HF.out.2.1; rw [hS1] at this; simp at this; omega
          have e0 : P ++ (S1 ++ x :: S2) ++ rest = (P ++ S1') ++ y :: [] ++ x :: (S2 ++ rest) := by rw [hS1]; simp
          have hpl : p = (P ++ S1').length := by have := HA.out; simp; omega
          have hjl : j = (P ++ S1').length + 1 + ([] : List Ln).length := by simp; have := HA.out; omega
          obtain ⟨hgj, hgi⟩ := at_pc (P := P ++ S1') (M := []) (Q := S2 ++ rest) (x := y) (y := x) hpl hjl
          have hsw := swp_pc (P := P ++ S1') (M := []) (Q := S2 ++ rest) (x := y) (y := x) hpl hjl
          have HL2 : Hid (Lns wr B (some ⟨g, 0, none⟩) n c ((P ++ S1') ++ y :: [] ++ x :: (S2 ++ rest))) := hide (by have := HLj.out; rw [e0] at this; exact this)
          have hne : ¬ j = p := by omega
          have HSw : Hid ((((P ++ S1') ++ y :: [] ++ x :: (S2 ++ rest)).set j y).set p x = P ++ (S1' ++ x :: (y :: S2)) ++ rest) := hide (by
            rw [List.set_comm _ _ hne, hsw]; simp)
          have HS1 := hide hS1
          have HGi := hide hgi
          have HGj := hide hgj
          have HNe := hide hne
          have HP := hide hp
          have HJP := hide hjp
          obtain ⟨c0, c1, c2⟩ := HL2.out.at_ hgi
          obtain ⟨d0, d1, d2⟩ := HL2.out.at_ hgj
          have hlx := (List.getElem?_eq_some_iff.1 hgi).1
          have hly := (List.getElem?_eq_some_iff.1 hgj).1
          have HSwap := hide (HL2.out.swap j p x y hlx hly)
          have hp1 := (HL2.out.put j y hlx).1
          obtain ⟨d0', d1', d2'⟩ := hp1.at_ (i := p) (x := y) (by rw [List.getElem?_set, if_neg hne]; exact hgj)
          have f3' := hp1.frozen (p * 3)
          have f4' := hp1.frozen (p * 3 + 1)
          have f5' := hp1.frozen (p * 3 + 2)
          have f0 := HL2.out.frozen (j * 3)
          have f1 := HL2.out.frozen (j * 3 + 1)
          have f2 := HL2.out.frozen (j * 3 + 2)
          have f3 := HL2.out.frozen (p * 3)
          have f4 := HL2.out.frozen (p * 3 + 1)
          have f5 := HL2.out.frozen (p * 3 + 2)
          clear hp1 hlx hly
          have e2 : decide (a < j) = true := by simp; omega
          have hpa : a ≤ p := by omega
          have hjn : j < n := by omega
          have wj : IntKind.i64.wrap ((j : Int) - 1) = (p : Int) := by rw [IntWalk.i64_in _ (by omega)]; omega
          have hjI : (j : Int) < (n : Int) := by omega
          have hpI : (p : Int) < (n : Int) := by omega
          have hj0 : (0 : Int) ≤ (j : Int) := by omega
          have hp0 : (0 : Int) ≤ (p : Int) := by omega
          clear eS hS1 hp hjp e0 hpl hjl hgi hgj hsw hne HLj
          have HSg : Hid (∀ W, Keeps (fun _ => False) wr W → (Keeps (fun _ => False) wr W ∧ W.cell? ⟨g, j * 3, none⟩ = some (.string x.key) ∧ W.cell? ⟨g, j * 3 + 1, none⟩ = some (.int .u64 x.lo) ∧ W.cell? ⟨g, j * 3 + 2, none⟩ = some (.int .u64 x.hi) ∧ W.cell? ⟨g, p * 3, none⟩ = some (.string y.key) ∧ W.cell? ⟨g, p * 3 + 1, none⟩ = some (.int .u64 y.lo) ∧ W.cell? ⟨g, p * 3 + 2, none⟩ = some (.int .u64 y.hi))) := hide (fun W kW => ⟨kW, kW.cell_some c0 (fun h => h), kW.cell_some c1 (fun h => h), kW.cell_some c2 (fun h => h), kW.cell_some d0 (fun h => h), kW.cell_some d1 (fun h => h), kW.cell_some d2 (fun h => h)⟩)
          go_upto_region 4 with fail
          refine wp_region_held_drew (S := fun W => Keeps (fun _ => False) wr W ∧ W.cell? ⟨g, j * 3, none⟩ = some (.string x.key) ∧ W.cell? ⟨g, j * 3 + 1, none⟩ = some (.int .u64 x.lo) ∧ W.cell? ⟨g, j * 3 + 2, none⟩ = some (.int .u64 x.hi) ∧ W.cell? ⟨g, p * 3, none⟩ = some (.string y.key) ∧ W.cell? ⟨g, p * 3 + 1, none⟩ = some (.int .u64 y.lo) ∧ W.cell? ⟨g, p * 3 + 2, none⟩ = some (.int .u64 y.hi)) (by kernel_rfl) (HSg.out _ ((Keeps.refl _ _).drew)) (fun hHeld => ?_)
          refine wpAnyH_take (i := 0) (v := ?_) rfl (by kernel_rfl) (by kernel_rfl) (by kernel_rfl) (fun _ _ _ h => h) (Or.inl ⟨by first | kernel_rfl | rfl, ?_⟩) (by assumption) ?_; rotate_left; focus (intro w hSw; (try dsimp only at hSw); go_simp; try (with_reducible rfl)); (try simp only [Act.put, List.getElem_toArray, List.getElem_cons_succ, List.getElem_cons_zero, List.setIfInBounds_toArray, List.set_cons_zero, List.set_cons_succ])
          refine wpAnyH_take (i := 1) (v := ?_) rfl (by kernel_rfl) (by kernel_rfl) (by kernel_rfl) (fun _ _ _ h => h) (Or.inl ⟨by first | kernel_rfl | rfl, ?_⟩) (by assumption) ?_; rotate_left; focus (intro w hSw; (try dsimp only at hSw); go_simp; try (with_reducible rfl)); (try simp only [Act.put, List.getElem_toArray, List.getElem_cons_succ, List.getElem_cons_zero, List.setIfInBounds_toArray, List.set_cons_zero, List.set_cons_succ])
          refine wpAnyH_take (i := 2) (v := ?_) rfl (by kernel_rfl) (by kernel_rfl) (by kernel_rfl) (fun _ _ _ h => h) (Or.inl ⟨by first | kernel_rfl | rfl, ?_⟩) (by assumption) ?_; rotate_left; focus (intro w hSw; (try dsimp only at hSw); go_simp; try (with_reducible rfl)); (try simp only [Act.put, List.getElem_toArray, List.getElem_cons_succ, List.getElem_cons_zero, List.setIfInBounds_toArray, List.set_cons_zero, List.set_cons_succ])
          refine wpAnyH_take (i := 3) (v := ?_) rfl (by kernel_rfl) (by kernel_rfl) (by kernel_rfl) (fun _ _ _ h => h) (Or.inl ⟨by first | kernel_rfl | rfl, ?_⟩) (by assumption) ?_; rotate_left; focus (intro w hSw; (try dsimp only at hSw); go_simp; try (with_reducible rfl)); (try simp only [Act.put, List.getElem_toArray, List.getElem_cons_succ, List.getElem_cons_zero, List.setIfInBounds_toArray, List.set_cons_zero, List.set_cons_succ])
          refine wpAnyH_take (i := 4) (v := ?_) rfl (by kernel_rfl) (by kernel_rfl) (by kernel_rfl) (fun _ _ _ h => h) (Or.inl ⟨by first | kernel_rfl | rfl, ?_⟩) (by assumption) ?_; rotate_left; focus (intro w hSw; (try dsimp only at hSw); go_simp; try (with_reducible rfl)); (try simp only [Act.put, List.getElem_toArray, List.getElem_cons_succ, List.getElem_cons_zero, List.setIfInBounds_toArray, List.set_cons_zero, List.set_cons_succ])
          refine wpAnyH_take (i := 5) (v := ?_) rfl (by kernel_rfl) (by kernel_rfl) (by kernel_rfl) (fun _ _ _ h => h) (Or.inl ⟨by first | kernel_rfl | rfl, ?_⟩) (by assumption) ?_; rotate_left; focus (intro w hSw; (try dsimp only at hSw); go_simp; try (with_reducible rfl)); (try simp only [Act.put, List.getElem_toArray, List.getElem_cons_succ, List.getElem_cons_zero, List.setIfInBounds_toArray, List.set_cons_zero, List.set_cons_succ])
          refine wpAnyH_take (i := 6) (v := ?_) rfl (by kernel_rfl) (by kernel_rfl) (by kernel_rfl) (fun _ _ _ h => h) (Or.inl ⟨by first | kernel_rfl | rfl, ?_⟩) (by assumption) ?_; rotate_left; focus (intro w hSw; (try dsimp only at hSw); go_simp; try (with_reducible rfl)); (try simp only [Act.put, List.getElem_toArray, List.getElem_cons_succ, List.getElem_cons_zero, List.setIfInBounds_toArray, List.set_cons_zero, List.set_cons_succ])
          refine wpAnyH_take (i := 7) (v := ?_) rfl (by kernel_rfl) (by kernel_rfl) (by kernel_rfl) (fun _ _ _ h => h) (Or.inl ⟨by first | kernel_rfl | rfl, ?_⟩) (by assumption) ?_; rotate_left; focus (intro w hSw; (try dsimp only at hSw); go_simp; try (with_reducible rfl)); (try simp only [Act.put, List.getElem_toArray, List.getElem_cons_succ, List.getElem_cons_zero, List.setIfInBounds_toArray, List.set_cons_zero, List.set_cons_succ])
          refine wpAnyH_take (i := 8) (v := ?_) rfl (by kernel_rfl) (by kernel_rfl) (by kernel_rfl) (fun _ _ _ h => h) (Or.inl ⟨by first | kernel_rfl | rfl, ?_⟩) (by assumption) ?_; rotate_left; focus (intro w hSw; (try dsimp only at hSw); go_simp; try (with_reducible rfl)); (try simp only [Act.put, List.getElem_toArray, List.getElem_cons_succ, List.getElem_cons_zero, List.setIfInBounds_toArray, List.set_cons_zero, List.set_cons_succ])
          refine wpAnyH_take (i := 9) (v := ?_) rfl (by kernel_rfl) (by kernel_rfl) (by kernel_rfl) (fun _ _ _ h => h) (Or.inl ⟨by first | kernel_rfl | rfl, ?_⟩) (by assumption) ?_; rotate_left; focus (intro w hSw; (try dsimp only at hSw); go_simp; try (with_reducible rfl)); (try simp only [Act.put, List.getElem_toArray, List.getElem_cons_succ, List.getElem_cons_zero, List.setIfInBounds_toArray, List.set_cons_zero, List.set_cons_succ])
          refine wpAnyH_take (i := 10) (v := ?_) rfl (by kernel_rfl) (by kernel_rfl) (by kernel_rfl) (fun _ _ _ h => h) (Or.inl ⟨by first | kernel_rfl | rfl, ?_⟩) (by assumption) ?_; rotate_left; focus (intro w hSw; (try dsimp only at hSw); go_simp; try (with_reducible rfl)); (try simp only [Act.put, List.getElem_toArray, List.getElem_cons_succ, List.getElem_cons_zero, List.setIfInBounds_toArray, List.set_cons_zero, List.set_cons_succ])
          refine wpAnyH_take (i := 11) (v := ?_) rfl (by kernel_rfl) (by kernel_rfl) (by kernel_rfl) (fun _ _ _ h => h) (Or.inl ⟨by first | kernel_rfl | rfl, ?_⟩) (by assumption) ?_; rotate_left; focus (intro w hSw; (try dsimp only at hSw); go_simp; try (with_reducible rfl)); (try simp only [Act.put, List.getElem_toArray, List.getElem_cons_succ, List.getElem_cons_zero, List.setIfInBounds_toArray, List.set_cons_zero, List.set_cons_succ])
          refine wpAnyH_take (i := 12) (v := ?_) rfl (by kernel_rfl) (by kernel_rfl) (by kernel_rfl) (fun _ _ _ h => h) (Or.inl ⟨by first | kernel_rfl | rfl, ?_⟩) (by assumption) ?_; rotate_left; focus (intro w hSw; (try dsimp only at hSw); go_simp; try (with_reducible rfl)); (try simp only [Act.put, List.getElem_toArray, List.getElem_cons_succ, List.getElem_cons_zero, List.setIfInBounds_toArray, List.set_cons_zero, List.set_cons_succ])
          refine wpAnyH_take (i := 13) (v := ?_) rfl (by kernel_rfl) (by kernel_rfl) (by kernel_rfl) (fun _ _ _ h => h) (Or.inl ⟨by first | kernel_rfl | rfl, ?_⟩) (by assumption) ?_; rotate_left; focus (intro w hSw; (try dsimp only at hSw); go_simp; try (with_reducible rfl)); (try simp only [Act.put, List.getElem_toArray, List.getElem_cons_succ, List.getElem_cons_zero, List.setIfInBounds_toArray, List.set_cons_zero, List.set_cons_succ])
          refine wpAnyH_ready (rs := [14]) (by kernel_rfl) (by simp) ?_
          refine AllReadyH.cons rfl (fun K hK => ?_) AllReadyH.nil
          go_simp
          trace "CMP"
          go_at_call 58
          refine (cmp_any x y _).mono ?_
          rintro e w5 ⟨rfl, k5⟩
          have KD := hide (((Keeps.refl (fun _ => False) wr).drew).trans k5)
          (try go_wp2_with fail)
          refine hK.out _ _ (HSg.out _ KD.out) (fun _ => ?_)
          clear hK K k5
          (try simp only [Act.put, List.getElem_toArray, List.getElem_cons_succ, List.getElem_cons_zero, List.setIfInBounds_toArray, List.set_cons_zero, List.set_cons_succ])
          refine wpAnyH_take (i := 15) (v := ?_) rfl (by kernel_rfl) (by kernel_rfl) (by kernel_rfl) (fun _ _ _ h => h) (Or.inl ⟨by first | kernel_rfl | rfl, ?_⟩) (by assumption) ?_; rotate_left; focus (intro w hSw; (try dsimp only at hSw); go_simp; try (with_reducible rfl)); (try simp only [Act.put, List.getElem_toArray, List.getElem_cons_succ, List.getElem_cons_zero, List.setIfInBounds_toArray, List.set_cons_zero, List.set_cons_succ])
          refine wpAnyH_take (i := 16) (v := ?_) rfl (by kernel_rfl) (by kernel_rfl) (by kernel_rfl) (fun _ _ _ h => h) (Or.inl ⟨by first | kernel_rfl | rfl, ?_⟩) (by assumption) ?_; rotate_left; focus (intro w hSw; (try dsimp only at hSw); go_simp; try (with_reducible rfl)); (try simp only [Act.put, List.getElem_toArray, List.getElem_cons_succ, List.getElem_cons_zero, List.setIfInBounds_toArray, List.set_cons_zero, List.set_cons_succ])
          refine wpAnyH_done (by kernel_rfl) ?_ _
          (try simp only [Act.put, List.getElem_toArray, List.getElem_cons_succ, List.getElem_cons_zero, List.setIfInBounds_toArray, List.set_cons_zero, List.set_cons_succ])
          clear hHeld HSg
          trace "CMP2"
          rcases hb : decide (lnCmp x y < 0) with _ | _
          · have hlf : lnLt x y = false := by rw [← lnCmp_lt]; exact hb
            have HR : Hid (srtL (Mi.take (k + 1)) = S1 ++ x :: S2) := hide (HSn.out S1 S2 HF.out.1 HF.out.2.2 (by
              have h1 : Srt.Sd lnLt (S1' ++ [y]) := by
                have := HSd.out
                rw [← HF.out.1, HS1.out] at this
                exact (List.pairwise_append.1 this).1
              rw [HS1.out]
              exact Srt.Sd.left lnLt_wk h1 hlf))
            have HLe : Hid (Lns w5 B (some ⟨g, 0, none⟩) n c (P ++ (S1 ++ x :: S2) ++ rest)) := hide (by
              have := HL2.out.kept KD.out (fun _ _ h => h)
              rw [HS1.out]
              simpa using this)
            have KE := hide (HKj.out.trans (KD.out.weak (S' := inB (some ⟨g, 0, none⟩)) (fun _ _ h => h.elim)))
            clear hb hlf HL2 HSwap c0 c1 c2 d0 d1 d2 f0 f1 f2 f3 f4 f5 d0' d1' d2' f3' f4' f5' HSw
            go_wp2_with fail
            trace "EXIT2"
            go_roundw
            case rel =>
              refine ⟨k + 1, i + 1, by omega, .inl HLT.out, by go_num, hide (by have := HIK.out; omega), hide ?_, KE⟩
              have := HLe.out
              rw [HRest.out] at this
              rw [HR.out]
              simpa using this
            case measure => have := HLT.out; have := HIK.out; have := HBM.out; simp [intOf]; omega
          · have HLt : Hid (lnLt x y = true) := hide (by rw [← lnCmp_lt]; exact hb)
            clear hb
            have HL5 : Hid (Lns w5 B (some ⟨g, 0, none⟩) n c ((P ++ S1') ++ y :: [] ++ x :: (S2 ++ rest))) := hide (HL2.out.kept KD.out (fun _ _ h => h))
            clear HL2 HSwap c0 c1 c2 d0 d1 d2 f0 f1 f2 f3 f4 f5 d0' d1' d2' f3' f4' f5'
            have HL2 := HL5
            have hgi := HGi.out
            have hgj := HGj.out
            have hne := HNe.out
            obtain ⟨c0, c1, c2⟩ := HL2.out.at_ hgi
            obtain ⟨d0, d1, d2⟩ := HL2.out.at_ hgj
            have hlx := (List.getElem?_eq_some_iff.1 hgi).1
            have hly := (List.getElem?_eq_some_iff.1 hgj).1
            have HSwap := hide (HL2.out.swap j p x y hlx hly)
            have hp1 := (HL2.out.put j y hlx).1
            obtain ⟨d0', d1', d2'⟩ := hp1.at_ (i := p) (x := y) (by rw [List.getElem?_set, if_neg hne]; exact hgj)
            have f3' := hp1.frozen (p * 3)
            have f4' := hp1.frozen (p * 3 + 1)
            have f5' := hp1.frozen (p * 3 + 2)
            have f0 := HL2.out.frozen (j * 3)
            have f1 := HL2.out.frozen (j * 3 + 1)
            have f2 := HL2.out.frozen (j * 3 + 2)
            have f3 := HL2.out.frozen (p * 3)
            have f4 := HL2.out.frozen (p * 3 + 1)
            have f5 := HL2.out.frozen (p * 3 + 2)
            clear hp1 hlx hly
            clear hgi hgj hne
            go_upto_region 6 with fail
            trace "SWAP"
            go_region
            trace "SWAP2"
            obtain ⟨hs, ks⟩ := HSwap.out
            rw [HSw.out] at hs
            have HS := hide (hs.kept ((Keeps.refl (fun _ => False) _).drew) (fun _ _ h => h))
            have KS := hide (Keeps.drew ((HKj.out.trans (KD.out.weak (fun _ _ h => h.elim))).trans (ks.weak (S' := inB (some ⟨g, 0, none⟩)) (fun q _ e => (inB_some _ _ _).2 e.symm))))
            clear hs ks HSwap HSw c0 c1 c2 d0 d1 d2 f0 f1 f2 f3 f4 f5 d0' d1' d2' f3' f4' f5'
            generalize World.drew _ = w6 at *
            go_wp2_with fail
            go_roundw
            case rel =>
              refine ⟨p, S1', y :: S2, by have := HJP.out; omega, hpa, rfl, hide ⟨by have := HF.out.1; rw [HS1.out] at this; simpa using this, HP.out, fun u hu => ?_⟩, HS, KS⟩
              rcases List.mem_cons.1 hu with rfl | hu
              · exact HLt.out
              · exact HF.out.2.2 u hu
            case measure => have := HJP.out; simp [intOf]; omega
    · have e1 : decide (i < b) = false := by have := HIK.out; have := HBM.out; simp; omega
      have hib : ¬ i < b := by have := HIK.out; have := HBM.out; omega
      have HR : Hid (srtL (Mi.take k) ++ Mi.drop k = srtL Mi) := hide (by
        rcases hkm with h | h
        · have hkm2 : k = m := by omega
          subst hkm2
          rw [HM.out, List.take_of_length_le (Nat.le_refl _), List.drop_of_length_le (Nat.le_refl _), List.append_nil]
        · subst h
          have hml := HM.out
          rcases Mi with _ | ⟨x, _ | ⟨y, Mi⟩⟩
          · rfl
          · show Srt.srt lnLt [x] ++ [] = _
            rw [List.append_nil]
          · simp at hml; omega)
      go_wp2_with fail
      trace "END"
      go_end0
      refine ⟨rfl, ?_, HK.out⟩
      have := HL.out
      rw [HR.out] at this
      exact this
end Go.Proofs.Ytmbgnekilgobaaa
