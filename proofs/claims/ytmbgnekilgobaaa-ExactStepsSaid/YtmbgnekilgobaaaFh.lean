
/-
  ExactSteps: the switch of a round. No conditions beyond those of the statement.
-/
import Derived.Test.YtmbgnekilgobaaaFg
import Derived.Deep.CutRange
import Derived.Deep.CutBlock
set_option linter.unusedVariables false
set_option linter.unusedSimpArgs false
namespace Go.Proofs.Ytmbgnekilgobaaa
open Go.RowKit
namespace exactSteps
noncomputable def bk2 : Code := ((Try.f14.body.bind (findBlk 2)).getD .skip)
set_option maxRecDepth 1000000 in
set_option maxHeartbeats 4000000 in
theorem blk2 (w w7 : World) (B g gp gy s q : Nat) (N d : Int) (x : Ln) (l : List Ln) (s0 s1 s2 s3 s4 s5 s6 s7 s8 s9 s10 s12 s14 s15 s16 s17 s19 s20 s21 s22 s23 s24 s25 s26 s27 s28 s29 s30 s31 s32 s33 s34 s35 s36 s37 s38 s39 s40 s41 s42 s43 s44 s45 s46 s47 s48 s49 s50 s51 s52 s53 s54 s55 s56 s57 s58 s59 s60 s61 s62 s63 s64 s65 s66 s67 s68 s69 s70 s71 s72 s73 s74 s75 s76 s77 s78 s79 s80 s81 s82 s83 s84 s86 s87 s88 s89 s90 s91 s92 s93 s94 s95 s96 s97 s98 s99 s100 s101 s102 s103 s104 s105 s106 s107 s108 s109 s110 s111 s112 s113 s114 s115 s116 s117 s118 s119 s120 s121 s122 s123 s124 s125 s126 s127 s128 s129 s130 s131 s132 s133 s134 s135 s136 s137 s138 s139 s140 s141 s142 s143 s144 s145 s146 s147 s148 s149 s150 s151 s152 s153 s154 s155 s156 s157 s158 s159 s160 s161 s162 s163 s164 s165 s166 s167 s168 s169 s170 s171 s172 s173 s174 s175 s176 s177 s178 s179 s180 s181 s182 s183 s184 s185 s186 s187 s188 s189 s190 s191 s192 s193 s194 s195 s196 s197 s198 : Value)
    (J K : Act → World → Prop)
    (hJ : ∀ a' w', (∃ u10 u19 u20 u21 u22 u57 u58 u59 u60 u61 u62 u63 u64 u65 u66 u67 u68 u69 u70 u71 u72 u73 u74 u75 u76 u77 u78 u79 u80 u81 u82 u83 u84 u85 u86 u87 u88 u89 u90 u91 u92 u93 u94 u95 u96 u97 u98 u99 u100 u101 u102 u103 u104 u105 u106 u107 u108 u109 u110 u111 u112 u113 u114 u115 u116 u117 u118 u119 u120 u121 u122 u123 u124 u125 u126 u127 u128 u129 u130 u131 u132 u133 u134 u135 u136 u137 u138 u139 u140 u141 u142 u143 u144 u145 u146 u147 u148 u149 u150 u151 u152 u153 u154 u155 u156 u157 u158 u159 u160 u161 u162 u163 u164 u165 u166 u167 u168 u169 u170 u171 u172 u173 u174 u175 u176 u177 u178 u179 u180 u181 u182 u183 u184 u185 u186 u187 u188 u189 u190 u191 u192 u193 u194 u195 u196 u197, CutD w B g gp gy s q N x w' ∧ a' = ⟨#[s0, s1, s2, s3, s4, s5, s6, s7, s8, s9, u10, .pointer (some ⟨s, 0, none⟩), s12, .pointer (some ⟨q, 0, none⟩), s14, s15, s16, s17, .pointer (some ⟨gy, 0, none⟩), u19, u20, u21, u22, s23, s24, s25, s26, s27, s28, s29, s30, s31, s32, s33, s34, s35, s36, s37, s38, s39, s40, s41, s42, s43, s44, s45, s46, s47, s48, s49, s50, s51, s52, s53, s54, s55, s56, u57, u58, u59, u60, u61, u62, u63, u64, u65, u66, u67, u68, u69, u70, u71, u72, u73, u74, u75, u76, u77, u78, u79, u80, u81, u82, u83, u84, u85, u86, u87, u88, u89, u90, u91, u92, u93, u94, u95, u96, u97, u98, u99, u100, u101, u102, u103, u104, u105, u106, u107, u108, u109, u110, u111, u112, u113, u114, u115, u116, u117, u118, u119, u120, u121, u122, u123, u124, u125, u126, u127, u128, u129, u130, u131, u132, u133, u134, u135, u136, u137, u138, u139, u140, u141, u142, u143, u144, u145, u146, u147, u148, u149, u150, u151, u152, u153, u154, u155, u156, u157, u158, u159, u160, u161, u162, u163, u164, u165, u166, u167, u168, u169, u170, u171, u172, u173, u174, u175, u176, u177, u178, u179, u180, u181, u182, u183, u184, u185, u186, u187, u188, u189, u190, u191, u192, u193, u194, u195, u196, u197, s198], []⟩) → J a' w') (hM : ∀ a' w', Met J a' w' → K a' w')
    (HZ7 : Hid (CutZ w B g gp gy s q N x l w7)) :
    Code.wp Try.prog bk2 (Exit.then K (fun _ _ _ => False)) ⟨#[s0, s1, s2, s3, s4, s5, s6, s7, s8, s9, s10, .pointer (some ⟨s, 0, none⟩), s12, .pointer (some ⟨q, 0, none⟩), s14, s15, s16, s17, .pointer (some ⟨gy, 0, none⟩), s19, s20, s21, s22, s23, s24, s25, s26, s27, s28, s29, s30, s31, s32, s33, s34, s35, s36, s37, s38, s39, s40, s41, s42, s43, s44, s45, s46, s47, s48, s49, s50, s51, s52, s53, s54, s55, s56, s57, s58, s59, s60, s61, s62, s63, s64, s65, s66, s67, s68, s69, s70, s71, s72, s73, s74, s75, s76, s77, s78, s79, s80, s81, s82, s83, s84, .int .i64 d, s86, s87, s88, s89, s90, s91, s92, s93, s94, s95, s96, s97, s98, s99, s100, s101, s102, s103, s104, s105, s106, s107, s108, s109, s110, s111, s112, s113, s114, s115, s116, s117, s118, s119, s120, s121, s122, s123, s124, s125, s126, s127, s128, s129, s130, s131, s132, s133, s134, s135, s136, s137, s138, s139, s140, s141, s142, s143, s144, s145, s146, s147, s148, s149, s150, s151, s152, s153, s154, s155, s156, s157, s158, s159, s160, s161, s162, s163, s164, s165, s166, s167, s168, s169, s170, s171, s172, s173, s174, s175, s176, s177, s178, s179, s180, s181, s182, s183, s184, s185, s186, s187, s188, s189, s190, s191, s192, s193, s194, s195, s196, s197, s198], []⟩ w7 := by
  conv => arg 2; whnf
  dsimp only
  have hC2 := HZ7.out
  obtain ⟨y, h1, h2, h3, h4, h5, h6, h7, h8, h9⟩ := hC2
  obtain ⟨c0, c1, c2⟩ := ln_cells h1
  have l1 := h1.lt
  have hy := h2
  have H1 := hide h1
  have HT7 := hide h3
  have HP7 := hide h4
  have HD7 := hide h5
  have HK7 := hide h6
  have hgB7 : B ≤ gy ∧ gy ≠ g ∧ gy ≠ gp := ⟨h7, h8, h9⟩
  have HG7 : Hid (∀ k, (k < B ∨ k = g ∨ k = gp ∨ k = gy) → k < w7.heap.size) := hide (fun k e => by have := h1.lt; have := h4.lt; have := h5.lt; omega)
  have Fin : Hid (∀ (l2 : List Ln) (w9 : World), Hid (Two w9 (fun k => k < B ∨ k = g ∨ k = gp ∨ k = gy) s q N l2 l2) → Hid (Keeps (fun k => ¬ (fun k => k < B ∨ k = g ∨ k = gp ∨ k = gy) k) w7 w9) → CutD w B g gp gy s q N x w9) := hide (fun l2 w9 t9 k9 => ⟨l2, y, H1.out.kept k9.out (fun h => h (by omega)), hy, t9.out, HP7.out.kept k9.out (fun h => h (by omega)), HD7.out.kept k9.out (fun h => h (by omega)) (fun b hb h => h (by omega)), HK7.out.trans (k9.out.weak (fun q _ h e => h (by omega))), hgB7.1, hgB7.2.1, hgB7.2.2⟩)
  clear h1 h2 h3 h4 h5 h6 h7 h8 h9 HZ7
  have hcase : (d = 0 ∨ d = 1 ∨ d = 2) ∨ (d = 3 ∨ d = 4 ∨ d = 5) ∨ ((d == 0) = false ∧ (d == 1) = false ∧ (d == 2) = false ∧ (d == 3) = false ∧ (d == 4) = false ∧ (d == 5) = false) := by
    by_cases h0 : d = 0
    · exact .inl (.inl h0)
    by_cases h1 : d = 1
    · exact .inl (.inr (.inl h1))
    by_cases h2 : d = 2
    · exact .inl (.inr (.inr h2))
    by_cases h3 : d = 3
    · exact .inr (.inl (.inl h3))
    by_cases h4 : d = 4
    · exact .inr (.inl (.inr (.inl h4)))
    by_cases h5 : d = 5
    · exact .inr (.inl (.inr (.inr h5)))
    exact .inr (.inr ⟨by simpa using h0, by simpa using h1, by simpa using h2, by simpa using h3, by simpa using h4, by simpa using h5⟩)
  have HSg : Hid (∀ W, Keeps (fun k => ¬ (fun k => k < B ∨ k = g ∨ k = gp ∨ k = gy) k) w7 W → (Keeps (fun k => ¬ (fun k => k < B ∨ k = g ∨ k = gp ∨ k = gy) k) w7 W ∧ W.cell? ⟨gy, 0, none⟩ = some (.string y.key) ∧ W.cell? ⟨gy, 1, none⟩ = some (.int .u64 y.lo) ∧ W.cell? ⟨gy, 2, none⟩ = some (.int .u64 y.hi))) := hide (fun W kW => ⟨kW, kW.cell_some c0 (fun h => h (by dsimp only; omega)), kW.cell_some c1 (fun h => h (by dsimp only; omega)), kW.cell_some c2 (fun h => h (by dsimp only; omega))⟩)
  rcases hcase with h | h | h
  · have hd : Hid (d = 0 ∨ d = 1 ∨ d = 2) := hide h
    rcases hd.out with rfl | rfl | rfl
    all_goals
      clear hd h
      go_upto_region 22 with fail
      refine wp_region_held_drew (S := fun W => Keeps (fun k => ¬ (fun k => k < B ∨ k = g ∨ k = gp ∨ k = gy) k) w7 W ∧ W.cell? ⟨gy, 0, none⟩ = some (.string y.key) ∧ W.cell? ⟨gy, 1, none⟩ = some (.int .u64 y.lo) ∧ W.cell? ⟨gy, 2, none⟩ = some (.int .u64 y.hi)) (by kernel_rfl) (HSg.out _ ((Keeps.refl _ _).drew)) (fun hHeld => ?_)
      refine wpAnyH_take (i := 0) (v := ?_) rfl (by kernel_rfl) (by kernel_rfl) (by kernel_rfl) (fun _ _ _ h => h) (Or.inl ⟨by first | kernel_rfl | rfl, ?_⟩) (by assumption) ?_; rotate_left; focus (intro w hSw; (try dsimp only at hSw); go_simp; try (with_reducible rfl)); (try simp only [Act.put, List.getElem_toArray, List.getElem_cons_succ, List.getElem_cons_zero, List.setIfInBounds_toArray, List.set_cons_zero, List.set_cons_succ])
      refine wpAnyH_take (i := 1) (v := ?_) rfl (by kernel_rfl) (by kernel_rfl) (by kernel_rfl) (fun _ _ _ h => h) (Or.inl ⟨by first | kernel_rfl | rfl, ?_⟩) (by assumption) ?_; rotate_left; focus (intro w hSw; (try dsimp only at hSw); go_simp; try (with_reducible rfl)); (try simp only [Act.put, List.getElem_toArray, List.getElem_cons_succ, List.getElem_cons_zero, List.setIfInBounds_toArray, List.set_cons_zero, List.set_cons_succ])
      refine wpAnyH_take (i := 3) (v := ?_) rfl (by kernel_rfl) (by kernel_rfl) (by kernel_rfl) (fun _ _ _ h => h) (Or.inl ⟨by first | kernel_rfl | rfl, ?_⟩) (by assumption) ?_; rotate_left; focus (intro w hSw; (try dsimp only at hSw); go_simp; try (with_reducible rfl)); (try simp only [Act.put, List.getElem_toArray, List.getElem_cons_succ, List.getElem_cons_zero, List.setIfInBounds_toArray, List.set_cons_zero, List.set_cons_succ])
      refine wpAnyH_take (i := 4) (v := ?_) rfl (by kernel_rfl) (by kernel_rfl) (by kernel_rfl) (fun _ _ _ h => h) (Or.inl ⟨by first | kernel_rfl | rfl, ?_⟩) (by assumption) ?_; rotate_left; focus (intro w hSw; (try dsimp only at hSw); go_simp; try (with_reducible rfl)); (try simp only [Act.put, List.getElem_toArray, List.getElem_cons_succ, List.getElem_cons_zero, List.setIfInBounds_toArray, List.set_cons_zero, List.set_cons_succ])
      refine wpAnyH_ready (rs := [2]) (by kernel_rfl) (by simp) ?_
      refine AllReadyH.cons rfl (fun K hK => ?_) AllReadyH.nil
      go_simp
      go_at_call 38
      refine (tput_any (HT7.out.kept ((Keeps.refl (fun _ => False) w7).drew) (fun _ h => h.elim)) (fun k e => HG7.out k e) y hy).mono ?_
      rintro e w8 ⟨rfl, t8, k8⟩
      have T8 := hide t8
      have K8 := hide (((Keeps.refl (fun k => ¬ (fun k => k < B ∨ k = g ∨ k = gp ∨ k = gy) k) w7).drew).trans k8)
      clear t8 k8
      (try go_wp2_with fail)
      refine hK.out _ _ (HSg.out _ K8.out) (fun _ => ?_)
      clear hK K
      (try simp only [Act.put, List.getElem_toArray, List.getElem_cons_succ, List.getElem_cons_zero, List.setIfInBounds_toArray, List.set_cons_zero, List.set_cons_succ])
      refine wpAnyH_ready (rs := [5]) (by kernel_rfl) (by simp) ?_
      refine AllReadyH.cons rfl (fun K hK => ?_) AllReadyH.nil
      go_simp
      go_at_call 49
      refine (trput_any T8.out (fun k e => by have := HG7.out k e; have := K8.out.size; omega) y hy).mono ?_
      rintro e w9 ⟨rfl, t9, k9⟩
      have K9 := hide (K8.out.trans k9)
      have FN := Fin.out _ w9 (hide t9) K9
      clear t9 k9
      (try go_wp2_with fail)
      refine hK.out _ _ (HSg.out _ K9.out) (fun _ => ?_)
      clear hK K
      (try simp only [Act.put, List.getElem_toArray, List.getElem_cons_succ, List.getElem_cons_zero, List.setIfInBounds_toArray, List.set_cons_zero, List.set_cons_succ])
      refine wpAnyH_take (i := 6) (v := ?_) rfl (by kernel_rfl) (by kernel_rfl) (by kernel_rfl) (fun _ _ _ h => h) (Or.inl ⟨by first | kernel_rfl | rfl, ?_⟩) (by assumption) ?_; rotate_left; focus (intro w hSw; (try dsimp only at hSw); go_simp; try (with_reducible rfl)); (try simp only [Act.put, List.getElem_toArray, List.getElem_cons_succ, List.getElem_cons_zero, List.setIfInBounds_toArray, List.set_cons_zero, List.set_cons_succ])
      refine wpAnyH_done (by kernel_rfl) ?_ _
      (try simp only [Act.put, List.getElem_toArray, List.getElem_cons_succ, List.getElem_cons_zero, List.setIfInBounds_toArray, List.set_cons_zero, List.set_cons_succ])
      clear hHeld HSg
      go_wp2_with fail
      go_meet
      exact FN
  · have hd : Hid (d = 3 ∨ d = 4 ∨ d = 5) := hide h
    rcases hd.out with rfl | rfl | rfl
    all_goals
      clear hd h
      go_upto_region 27 with fail
      refine wp_region_held_drew (S := fun W => Keeps (fun k => ¬ (fun k => k < B ∨ k = g ∨ k = gp ∨ k = gy) k) w7 W ∧ W.cell? ⟨gy, 0, none⟩ = some (.string y.key) ∧ W.cell? ⟨gy, 1, none⟩ = some (.int .u64 y.lo) ∧ W.cell? ⟨gy, 2, none⟩ = some (.int .u64 y.hi)) (by kernel_rfl) (HSg.out _ ((Keeps.refl _ _).drew)) (fun hHeld => ?_)
      refine wpAnyH_take (i := 0) (v := ?_) rfl (by kernel_rfl) (by kernel_rfl) (by kernel_rfl) (fun _ _ _ h => h) (Or.inl ⟨by first | kernel_rfl | rfl, ?_⟩) (by assumption) ?_; rotate_left; focus (intro w hSw; (try dsimp only at hSw); go_simp; try (with_reducible rfl)); (try simp only [Act.put, List.getElem_toArray, List.getElem_cons_succ, List.getElem_cons_zero, List.setIfInBounds_toArray, List.set_cons_zero, List.set_cons_succ])
      refine wpAnyH_take (i := 1) (v := ?_) rfl (by kernel_rfl) (by kernel_rfl) (by kernel_rfl) (fun _ _ _ h => h) (Or.inl ⟨by first | kernel_rfl | rfl, ?_⟩) (by assumption) ?_; rotate_left; focus (intro w hSw; (try dsimp only at hSw); go_simp; try (with_reducible rfl)); (try simp only [Act.put, List.getElem_toArray, List.getElem_cons_succ, List.getElem_cons_zero, List.setIfInBounds_toArray, List.set_cons_zero, List.set_cons_succ])
      refine wpAnyH_take (i := 2) (v := ?_) rfl (by kernel_rfl) (by kernel_rfl) (by kernel_rfl) (fun _ _ _ h => h) (Or.inl ⟨by first | kernel_rfl | rfl, ?_⟩) (by assumption) ?_; rotate_left; focus (intro w hSw; (try dsimp only at hSw); go_simp; try (with_reducible rfl)); (try simp only [Act.put, List.getElem_toArray, List.getElem_cons_succ, List.getElem_cons_zero, List.setIfInBounds_toArray, List.set_cons_zero, List.set_cons_succ])
      refine wpAnyH_take (i := 3) (v := ?_) rfl (by kernel_rfl) (by kernel_rfl) (by kernel_rfl) (fun _ _ _ h => h) (Or.inl ⟨by first | kernel_rfl | rfl, ?_⟩) (by assumption) ?_; rotate_left; focus (intro w hSw; (try dsimp only at hSw); go_simp; try (with_reducible rfl)); (try simp only [Act.put, List.getElem_toArray, List.getElem_cons_succ, List.getElem_cons_zero, List.setIfInBounds_toArray, List.set_cons_zero, List.set_cons_succ])
      refine wpAnyH_take (i := 4) (v := ?_) rfl (by kernel_rfl) (by kernel_rfl) (by kernel_rfl) (fun _ _ _ h => h) (Or.inl ⟨by first | kernel_rfl | rfl, ?_⟩) (by assumption) ?_; rotate_left; focus (intro w hSw; (try dsimp only at hSw); go_simp; try (with_reducible rfl)); (try simp only [Act.put, List.getElem_toArray, List.getElem_cons_succ, List.getElem_cons_zero, List.setIfInBounds_toArray, List.set_cons_zero, List.set_cons_succ])
      refine wpAnyH_take (i := 6) (v := ?_) rfl (by kernel_rfl) (by kernel_rfl) (by kernel_rfl) (fun _ _ _ h => h) (Or.inl ⟨by first | kernel_rfl | rfl, ?_⟩) (by assumption) ?_; rotate_left; focus (intro w hSw; (try dsimp only at hSw); go_simp; try (with_reducible rfl)); (try simp only [Act.put, List.getElem_toArray, List.getElem_cons_succ, List.getElem_cons_zero, List.setIfInBounds_toArray, List.set_cons_zero, List.set_cons_succ])
      refine wpAnyH_take (i := 7) (v := ?_) rfl (by kernel_rfl) (by kernel_rfl) (by kernel_rfl) (fun _ _ _ h => h) (Or.inl ⟨by first | kernel_rfl | rfl, ?_⟩) (by assumption) ?_; rotate_left; focus (intro w hSw; (try dsimp only at hSw); go_simp; try (with_reducible rfl)); (try simp only [Act.put, List.getElem_toArray, List.getElem_cons_succ, List.getElem_cons_zero, List.setIfInBounds_toArray, List.set_cons_zero, List.set_cons_succ])
      refine wpAnyH_take (i := 8) (v := ?_) rfl (by kernel_rfl) (by kernel_rfl) (by kernel_rfl) (fun _ _ _ h => h) (Or.inl ⟨by first | kernel_rfl | rfl, ?_⟩) (by assumption) ?_; rotate_left; focus (intro w hSw; (try dsimp only at hSw); go_simp; try (with_reducible rfl)); (try simp only [Act.put, List.getElem_toArray, List.getElem_cons_succ, List.getElem_cons_zero, List.setIfInBounds_toArray, List.set_cons_zero, List.set_cons_succ])
      refine wpAnyH_take (i := 9) (v := ?_) rfl (by kernel_rfl) (by kernel_rfl) (by kernel_rfl) (fun _ _ _ h => h) (Or.inl ⟨by first | kernel_rfl | rfl, ?_⟩) (by assumption) ?_; rotate_left; focus (intro w hSw; (try dsimp only at hSw); go_simp; try (with_reducible rfl)); (try simp only [Act.put, List.getElem_toArray, List.getElem_cons_succ, List.getElem_cons_zero, List.setIfInBounds_toArray, List.set_cons_zero, List.set_cons_succ])
      refine wpAnyH_take (i := 10) (v := ?_) rfl (by kernel_rfl) (by kernel_rfl) (by kernel_rfl) (fun _ _ _ h => h) (Or.inl ⟨by first | kernel_rfl | rfl, ?_⟩) (by assumption) ?_; rotate_left; focus (intro w hSw; (try dsimp only at hSw); go_simp; try (with_reducible rfl)); (try simp only [Act.put, List.getElem_toArray, List.getElem_cons_succ, List.getElem_cons_zero, List.setIfInBounds_toArray, List.set_cons_zero, List.set_cons_succ])
      refine wpAnyH_ready (rs := [5]) (by kernel_rfl) (by simp) ?_
      refine AllReadyH.cons rfl (fun K hK => ?_) AllReadyH.nil
      go_simp
      go_at_call 40
      refine (tadd_any (HT7.out.kept ((Keeps.refl (fun _ => False) w7).drew) (fun _ h => h.elim)) y.key y.lo hy.1).mono ?_
      rintro e w8 ⟨rfl, t8, k8⟩
      have T8 := hide t8
      have K8 := hide (((Keeps.refl (fun k => ¬ (fun k => k < B ∨ k = g ∨ k = gp ∨ k = gy) k) w7).drew).trans k8)
      clear t8 k8
      (try go_wp2_with fail)
      refine hK.out _ _ (HSg.out _ K8.out) (fun _ => ?_)
      clear hK K
      (try simp only [Act.put, List.getElem_toArray, List.getElem_cons_succ, List.getElem_cons_zero, List.setIfInBounds_toArray, List.set_cons_zero, List.set_cons_succ])
      refine wpAnyH_ready (rs := [11]) (by kernel_rfl) (by simp) ?_
      refine AllReadyH.cons rfl (fun K hK => ?_) AllReadyH.nil
      go_simp
      go_at_call 50
      refine (tradd_any T8.out y.key y.lo hy.1).mono ?_
      rintro e w9 ⟨rfl, t9, k9⟩
      have K9 := hide (K8.out.trans k9)
      have FN := Fin.out _ w9 (hide t9) K9
      clear t9 k9
      (try go_wp2_with fail)
      refine hK.out _ _ (HSg.out _ K9.out) (fun _ => ?_)
      clear hK K
      (try simp only [Act.put, List.getElem_toArray, List.getElem_cons_succ, List.getElem_cons_zero, List.setIfInBounds_toArray, List.set_cons_zero, List.set_cons_succ])
      refine wpAnyH_take (i := 12) (v := ?_) rfl (by kernel_rfl) (by kernel_rfl) (by kernel_rfl) (fun _ _ _ h => h) (Or.inl ⟨by first | kernel_rfl | rfl, ?_⟩) (by assumption) ?_; rotate_left; focus (intro w hSw; (try dsimp only at hSw); go_simp; try (with_reducible rfl)); (try simp only [Act.put, List.getElem_toArray, List.getElem_cons_succ, List.getElem_cons_zero, List.setIfInBounds_toArray, List.set_cons_zero, List.set_cons_succ])
      refine wpAnyH_done (by kernel_rfl) ?_ _
      (try simp only [Act.put, List.getElem_toArray, List.getElem_cons_succ, List.getElem_cons_zero, List.setIfInBounds_toArray, List.set_cons_zero, List.set_cons_succ])
      clear hHeld HSg
      go_wp2_with fail
      go_meet
      exact FN
  · obtain ⟨i0, i1, i2, i3, i4, i5⟩ := h
    clear HSg
    go_upto_region 15 with fail
    go_wp2_with fail
    refine (ttake_any HT7.out y.key).mono ?_
    rintro e w8 ⟨rfl, t8, k8⟩
    have K8 := hide (k8.alloc (.cells (lnC (getE l y.key)).toArray 53))
    have T8 := hide ((t8.grow ((Keeps.refl (fun _ => False) w8).alloc (.cells (lnC (getE l y.key)).toArray 53)) (fun _ h => h.elim)))
    have E8 := hide (Blk.new w8 53 (lnC (getE l y.key)).toArray)
    have hz8 : (w8.alloc (.cells (lnC (getE l y.key)).toArray 53)).heap.size = w8.heap.size + 1 := by simp
    have hk8 := k8.size
    obtain ⟨gA, hgA⟩ : ∃ gA, gA = w8.heap.size := ⟨_, rfl⟩
    obtain ⟨w9, hw9⟩ : ∃ w9, w9 = w8.alloc (.cells (lnC (getE l y.key)).toArray 53) := ⟨_, rfl⟩
    rw [← hw9] at K8 T8 E8 hz8
    rw [← hgA] at E8 hz8
    have c90 := K8.out.cell_some c0 (fun h => h (by dsimp only; omega))
    have l9 : gy < w9.heap.size := by have := K8.out.size; omega
    have HGA := hide hgA
    have HW9 := hide hw9
    unfold lnC at HW9
    clear t8 k8 hgA hw9
    go_upto_region 16 with fail
    rw [← HGA.out, ← HW9.out]
    go_wp2_with fail
    refine (trtake_any T8.out (fun k e => by
      rcases e with e | e
      · have := HG7.out k e; have := HGA.out; omega
      · have := HGA.out; omega) y.key).mono ?_
    rintro e w10 ⟨rfl, t10, k10⟩
    have K10 := hide (K8.out.trans (k10.weak (S' := fun k => ¬ (fun k => k < B ∨ k = g ∨ k = gp ∨ k = gy) k) (fun k _ h e => h (.inl e))))
    have E10 := hide ((E8.out.kept k10 (fun h => h (.inr (by have := HGA.out; omega)))).kept ((Keeps.refl (fun _ => False) w10).alloc (.cells (lnC (getE l y.key)).toArray 53)) (fun h => h))
    have F10 := hide (Blk.new w10 53 (lnC (getE l y.key)).toArray)
    have FN := hide (Fin.out _ _ (hide ((t10.less (fun k e => .inl e)).kept ((Keeps.refl (fun _ => False) w10).alloc (.cells (lnC (getE l y.key)).toArray 53)) (fun _ h => h.elim))) (hide (K10.out.alloc (.cells (lnC (getE l y.key)).toArray 53))))
    obtain ⟨gC, hgC⟩ : ∃ gC, gC = w10.heap.size := ⟨_, rfl⟩
    obtain ⟨w11, hw11⟩ : ∃ w11, w11 = w10.alloc (.cells (lnC (getE l y.key)).toArray 53) := ⟨_, rfl⟩
    rw [← hw11] at E10 F10 FN
    rw [← hgC] at F10
    obtain ⟨p0, p1, p2⟩ := ln_cells E10.out
    obtain ⟨q0, q1, q2⟩ := ln_cells F10.out
    have lp := E10.out.lt
    have lq := F10.out.lt
    have HGC := hide hgC
    have HW11 := hide hw11
    unfold lnC at HW11
    clear t10 k10 hgC hw11 c90 l9
    go_upto_region 17 with fail
    rw [← HGC.out, ← HW11.out]
    go_wp2_with fail
    go_meet
    exact FN.out
end exactSteps
end Go.Proofs.Ytmbgnekilgobaaa
