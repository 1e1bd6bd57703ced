
/-
  The reference's pool: one more number (three appends in one statement). No conditions beyond those of the statement.
-/
import Derived.Test.YtidobhflijdccaaGB
import Derived.Test.YtidobhflijdccaaNl
import Derived.BigRegion
set_option linter.unusedVariables false
set_option linter.unusedSimpArgs false
namespace Go.Proofs.Ytidobhflijdccaa
open Go.RowKit Cfp
namespace poolGrow
/-- the code's region, by number -/
def findReg (q : Nat) : Code → Option Code
  | .region id ops b => if id = q then some (.region id ops b) else none
  | .loop c => findReg q c
  | .seq a b => match findReg q a with
    | some c => some c
    | none => findReg q b
  | .block _ c => findReg q c
  | .scope c => findReg q c
  | .cond _ a b => match findReg q a with
    | some c => some c
    | none => findReg q b
  | _ => none
noncomputable def rg18 : Code := ((Try.f50.body.bind (findReg 18)).getD .skip)
def NormPost (W : Act → World → Prop) : Exit → Act → World → Prop
  | .normal, a, w => W a w
  | _, _, _ => False
section
variable {w1 w8 : World} {F : Nat → Prop} {p b : Nat} {n : Int} {E : List PE} {ρ : RA} {KA UA TA A8 A14 A21 : Option Addr} {kc uc tc c8 c14 c21 : Nat}
theorem grow_fin (h : RPm w1 F p b n E KA kc UA uc TA tc) (hA : IsRA w1 (RG F p KA UA TA) b ρ) (hF : ∀ k, F k → k < w1.heap.size) (N : Nat) (hN : N = E.length)
    (k : Keeps (fun q => inB KA q ∨ inB UA q ∨ inB TA q) w1 w8) (oK : Own w8 0 9 1 A8 (N + 1) c8 (kyCs E ++ [.string ⟨#[]⟩])) (hK : ∀ q, inB A8 q → inB KA q ∨ w1.heap.size ≤ q)
    (oU : Own w8 0 3 1 A14 (N + 1) c14 (usCs E ++ [.int .i64 0])) (hU : ∀ q, inB A14 q → inB UA q ∨ w1.heap.size ≤ q) (oT : Own w8 0 40 3 A21 (N + 1) c21 (pehCs E ++ [.int .i64 0, .int .i64 0, .int .i64 0])) (hT : ∀ q, inB A21 q → inB TA q ∨ w1.heap.size ≤ q) :
    IsRP (((w8.setCell ⟨p, 2, none⟩ (.slice A8 (N + 1) c8)).setCell ⟨p, 3, none⟩ (.slice A14 (N + 1) c14)).setCell ⟨p, 4, none⟩ (.slice A21 (N + 1) c21)) F p b n (E ++ [PE.zero]) ρ ∧ Keeps (RPS F w1) w1 (((w8.setCell ⟨p, 2, none⟩ (.slice A8 (N + 1) c8)).setCell ⟨p, 3, none⟩ (.slice A14 (N + 1) c14)).setCell ⟨p, 4, none⟩ (.slice A21 (N + 1) c21)) := by
  obtain ⟨w9, hw9⟩ : ∃ w9, w9 = (((w8.setCell ⟨p, 2, none⟩ (.slice A8 (N + 1) c8)).setCell ⟨p, 3, none⟩ (.slice A14 (N + 1) c14)).setCell ⟨p, 4, none⟩ (.slice A21 (N + 1) c21)) := ⟨_, rfl⟩
  have kp : Keeps (· = p) w8 w9 := by rw [hw9]; exact ((keepsOne w8 p 2 _).trans (keepsOne _ p 3 _)).trans (keepsOne _ p 4 _)
  have hpn : ¬ (inB KA p ∨ inB UA p ∨ inB TA p) := by
    rintro (e | e | e)
    · exact h.ks.ne_blk h.blk (by decide) e rfl
    · exact h.us.ne_blk h.blk (by decide) e rfl
    · exact h.ts.ne_blk h.blk (by decide) e rfl
  have b8 := h.blk.kept k hpn
  have b9 := ((b8.set 2 (.slice A8 (N + 1) c8)).set 3 (.slice A14 (N + 1) c14)).set 4 (.slice A21 (N + 1) c21)
  rw [← hw9] at b9
  rw [← hw9]
  have hl : (E ++ [PE.zero]).length = N + 1 := by simp [hN]
  have s1 := k.size
  have kall : Keeps (fun q => RG F p KA UA TA q ∧ ¬ F q) w1 w9 := (k.weak (S' := fun q => RG F p KA UA TA q ∧ ¬ F q) (fun q _ e => by
    rcases e with e | e | e
    · exact ⟨.inr (.inr (.inl e)), h.fk q e⟩
    · exact ⟨.inr (.inr (.inr (.inl e))), h.fu q e⟩
    · exact ⟨.inr (.inr (.inr (.inr e))), h.ft q e⟩)).step kp (fun q _ e => by subst e; exact ⟨.inr (.inl rfl), h.fp⟩)
  refine ⟨⟨A8, c8, A14, c14, A21, c21, ⟨?_, ?_, ?_, ?_, h.fp, ?_, ?_, ?_⟩, ?_⟩, kall.weak (fun q _ e => ?_)⟩
  · rw [hl]; exact b9
  · rw [hl, kyCs_app]; exact oK.kept kp (fun q hq e => oK.ne_blk b8 (by decide) hq e)
  · rw [hl, usCs_app]; exact oU.kept kp (fun q hq e => oU.ne_blk b8 (by decide) hq e)
  · rw [hl, pehCs_app]; exact oT.kept kp (fun q hq e => oT.ne_blk b8 (by decide) hq e)
  · intro q hq e
    rcases hK q hq with h1 | h1
    · exact h.fk q h1 e
    · have := hF q e; omega
  · intro q hq e
    rcases hU q hq with h1 | h1
    · exact h.fu q h1 e
    · have := hF q e; omega
  · intro q hq e
    rcases hT q hq with h1 | h1
    · exact h.ft q h1 e
    · have := hF q e; omega
  · have h1 := hA.other (G' := fun q => RG F p KA UA TA q ∨ RG F p A8 A14 A21 q) (fun q hq e => by
      rcases e with e | e | e | e | e | e
      · exact e
      · exact .inl e
      · exact .inr (.inl e)
      · rcases hK q e with h1 | h1
        · exact .inr (.inr (.inl h1))
        · omega
      · rcases hU q e with h1 | h1
        · exact .inr (.inr (.inr (.inl h1)))
        · omega
      · rcases hT q e with h1 | h1
        · exact .inr (.inr (.inr (.inr h1)))
        · omega)
    exact (h1.kept kall (fun q e => .inl (.inl e.1))).other (fun q _ e => .inr e)
  · obtain ⟨e, ef⟩ := e
    rcases e with e | e | e | e | e
    · exact absurd e ef
    · subst e; exact h.inP
    · exact h.inK e
    · exact h.inU e
    · exact h.inT e
set_option maxRecDepth 1000000 in
set_option maxHeartbeats 4000000 in
theorem reg18 (h : RPm w1 F p b n E KA kc UA uc TA tc) (hA : IsRA w1 (RG F p KA UA TA) b ρ) (hF : ∀ k, F k → k < w1.heap.size) (N : Nat) (hN : N = E.length) (hEN : N ≤ 1000000) (s1 s2 s3 s4 s5 s6 s7 s8 s9 s10 s11 s12 s13 s14 s15 s16 s17 s18 s19 s20 s21 s22 s23 s24 s25 s26 s27 s28 s29 s30 s31 s32 s33 s34 s35 s36 s37 s38 s39 s40 s41 s42 s43 s44 s45 s46 s47 s48 s49 s50 s51 s52 s53 s54 s55 s56 s57 s58 s59 s60 s61 s62 s63 s64 s65 s66 s67 s68 s69 s70 s71 s72 s73 s74 s75 s76 s77 s78 s79 s80 s81 s82 s83 s84 s85 s86 s87 s88 s89 s90 s91 s92 s93 s94 s95 s96 s97 s98 s99 s100 s101 s102 s103 s104 s105 s106 s107 s108 s109 s110 s111 s112 s113 s114 s115 s116 s117 s118 s119 s120 s121 s122 s123 s124 s125 s126 s127 s128 : Value) :
    Code.wp Try.prog rg18 (NormPost fun a' w' => (∃ u80 u81 u82 u83 u84 u85 u86 u87 u88 u89 u90 u91 u92 u93 u94 u95 u96 u97 u98 u99 u100 u101 u102 u103 u104 u105 u106 u107, a' = ⟨#[.pointer (some ⟨p, 0, none⟩), s1, s2, s3, s4, s5, s6, s7, s8, s9, s10, s11, s12, s13, s14, s15, s16, s17, s18, s19, s20, s21, s22, s23, s24, s25, s26, s27, s28, s29, s30, s31, s32, s33, s34, s35, s36, s37, s38, s39, s40, s41, s42, s43, s44, s45, s46, s47, s48, s49, s50, s51, s52, s53, s54, s55, s56, s57, s58, s59, s60, s61, s62, s63, s64, s65, s66, s67, s68, s69, s70, s71, s72, s73, s74, s75, s76, s77, s78, s79, u80, u81, u82, u83, u84, u85, u86, u87, u88, u89, u90, u91, u92, u93, u94, u95, u96, u97, u98, u99, u100, u101, u102, u103, u104, u105, u106, u107, s108, s109, s110, s111, s112, s113, s114, s115, s116, s117, s118, s119, s120, s121, s122, s123, s124, s125, s126, s127, s128], []⟩) ∧ IsRP w' F p b n (E ++ [PE.zero]) ρ ∧ Keeps (RPS F w1) w1 w') ⟨#[.pointer (some ⟨p, 0, none⟩), s1, s2, s3, s4, s5, s6, s7, s8, s9, s10, s11, s12, s13, s14, s15, s16, s17, s18, s19, s20, s21, s22, s23, s24, s25, s26, s27, s28, s29, s30, s31, s32, s33, s34, s35, s36, s37, s38, s39, s40, s41, s42, s43, s44, s45, s46, s47, s48, s49, s50, s51, s52, s53, s54, s55, s56, s57, s58, s59, s60, s61, s62, s63, s64, s65, s66, s67, s68, s69, s70, s71, s72, s73, s74, s75, s76, s77, s78, s79, s80, s81, s82, s83, s84, s85, s86, s87, s88, s89, s90, s91, s92, s93, s94, s95, s96, s97, s98, s99, s100, s101, s102, s103, s104, s105, s106, s107, s108, s109, s110, s111, s112, s113, s114, s115, s116, s117, s118, s119, s120, s121, s122, s123, s124, s125, s126, s127, s128], []⟩ w1 := by
  have HFin := hide (fun w8 A8 c8 A14 c14 A21 c21 => grow_fin (w8 := w8) (A8 := A8) (c8 := c8) (A14 := A14) (c14 := c14) (A21 := A21) (c21 := c21) h hA hF N hN)
  obtain ⟨⟨c0, c1, c2, c3, c4⟩, hpl⟩ := h.cells N hN
  have HP : Hid (¬ (inB KA p ∨ inB UA p ∨ inB TA p)) := hide (by
    rintro (e | e | e)
    · exact h.ks.ne_blk h.blk (by decide) e rfl
    · exact h.us.ne_blk h.blk (by decide) e rfl
    · exact h.ts.ne_blk h.blk (by decide) e rfl)
  have HSg : Hid (∀ W, Keeps (fun q => inB KA q ∨ inB UA q ∨ inB TA q) w1 W → (W.cell? ⟨p, 2, none⟩ = some (.slice KA N kc) ∧ W.cell? ⟨p, 3, none⟩ = some (.slice UA N uc) ∧ W.cell? ⟨p, 4, none⟩ = some (.slice TA N tc))) := hide (fun W kW => ⟨kW.cell_some c2 HP.out, kW.cell_some c3 HP.out, kW.cell_some c4 HP.out⟩)
  have hks := h.ks
  have hus := h.us
  have hts := h.ts
  rw [← hN] at hks hus hts
  have HR := hide h
  have k0 : Keeps (fun q => inB KA q ∨ inB UA q ∨ inB TA q) w1 w1.drew := (Keeps.refl _ _).drew
  have OK : Hid (Own w1.drew 0 9 1 KA N kc (kyCs E)) := hide (hks.kept ((Keeps.refl (fun _ => False) w1).drew) (fun _ _ h => h))
  have OU : Hid (Own w1.drew 0 3 1 UA N uc (usCs E)) := hide (hus.kept ((Keeps.refl (fun _ => False) w1).drew) (fun _ _ h => h))
  have OT : Hid (Own w1.drew 0 40 3 TA N tc (pehCs E)) := hide (hts.kept ((Keeps.refl (fun _ => False) w1).drew) (fun _ _ h => h))
  have KK := hide k0
  clear h hA hF hN c0 c1 c2 c3 c4 hks hus hts k0
  conv => arg 2; whnf
  dsimp only
  refine wp_region_L (fun k => k == 24 || k == 27 || k == 30) (S := fun W => W.cell? ⟨p, 2, none⟩ = some (.slice KA N kc) ∧ W.cell? ⟨p, 3, none⟩ = some (.slice UA N uc) ∧ W.cell? ⟨p, 4, none⟩ = some (.slice TA N tc)) (by kernel_rfl) (HSg.out _ KK.out) (fun hHeld => ?_)
  refine wpAnyL_take (i := 0) (v := ?_) rfl (by kernel_rfl) (by kernel_rfl) (by kernel_rfl) (by kernel_rfl) (by kernel_rfl) (fun _ _ _ h => h) (Or.inl ⟨by first | kernel_rfl | rfl, ?_⟩) (by assumption) ?_; rotate_left; focus (intro w hSw; (try dsimp only at hSw); go_simp; try (with_reducible rfl)); (try simp only [Act.put, List.getElem_toArray, List.getElem_cons_succ, List.getElem_cons_zero, List.setIfInBounds_toArray, List.set_cons_zero, List.set_cons_succ])
  refine wpAnyL_take (i := 3) (v := ?_) rfl (by kernel_rfl) (by kernel_rfl) (by kernel_rfl) (by kernel_rfl) (by kernel_rfl) (fun _ _ _ h => h) (Or.inl ⟨by first | kernel_rfl | rfl, ?_⟩) (by assumption) ?_; rotate_left; focus (intro w hSw; (try dsimp only at hSw); go_simp; try (with_reducible rfl)); (try simp only [Act.put, List.getElem_toArray, List.getElem_cons_succ, List.getElem_cons_zero, List.setIfInBounds_toArray, List.set_cons_zero, List.set_cons_succ])
  refine wpAnyL_take (i := 4) (v := ?_) rfl (by kernel_rfl) (by kernel_rfl) (by kernel_rfl) (by kernel_rfl) (by kernel_rfl) (fun _ _ _ h => h) (Or.inl ⟨by first | kernel_rfl | rfl, ?_⟩) (by assumption) ?_; rotate_left; focus (intro w hSw; (try dsimp only at hSw); go_simp; try (with_reducible rfl)); (try simp only [Act.put, List.getElem_toArray, List.getElem_cons_succ, List.getElem_cons_zero, List.setIfInBounds_toArray, List.set_cons_zero, List.set_cons_succ])
  refine wpAnyL_take (i := 5) (v := ?_) rfl (by kernel_rfl) (by kernel_rfl) (by kernel_rfl) (by kernel_rfl) (by kernel_rfl) (fun _ _ _ h => h) (Or.inl ⟨by first | kernel_rfl | rfl, ?_⟩) (by assumption) ?_; rotate_left; focus (intro w hSw; (try dsimp only at hSw); go_simp; try (with_reducible rfl)); (try simp only [Act.put, List.getElem_toArray, List.getElem_cons_succ, List.getElem_cons_zero, List.setIfInBounds_toArray, List.set_cons_zero, List.set_cons_succ])
  refine wpAnyL_take (i := 6) (v := ?_) rfl (by kernel_rfl) (by kernel_rfl) (by kernel_rfl) (by kernel_rfl) (by kernel_rfl) (fun _ _ _ h => h) (Or.inl ⟨by first | kernel_rfl | rfl, ?_⟩) (by assumption) ?_; rotate_left; focus (intro w hSw; (try dsimp only at hSw); go_simp; try (with_reducible rfl)); (try simp only [Act.put, List.getElem_toArray, List.getElem_cons_succ, List.getElem_cons_zero, List.setIfInBounds_toArray, List.set_cons_zero, List.set_cons_succ])
  refine wpAnyL_take (i := 9) (v := ?_) rfl (by kernel_rfl) (by kernel_rfl) (by kernel_rfl) (by kernel_rfl) (by kernel_rfl) (fun _ _ _ h => h) (Or.inl ⟨by first | kernel_rfl | rfl, ?_⟩) (by assumption) ?_; rotate_left; focus (intro w hSw; (try dsimp only at hSw); go_simp; try (with_reducible rfl)); (try simp only [Act.put, List.getElem_toArray, List.getElem_cons_succ, List.getElem_cons_zero, List.setIfInBounds_toArray, List.set_cons_zero, List.set_cons_succ])
  refine wpAnyL_take (i := 10) (v := ?_) rfl (by kernel_rfl) (by kernel_rfl) (by kernel_rfl) (by kernel_rfl) (by kernel_rfl) (fun _ _ _ h => h) (Or.inl ⟨by first | kernel_rfl | rfl, ?_⟩) (by assumption) ?_; rotate_left; focus (intro w hSw; (try dsimp only at hSw); go_simp; try (with_reducible rfl)); (try simp only [Act.put, List.getElem_toArray, List.getElem_cons_succ, List.getElem_cons_zero, List.setIfInBounds_toArray, List.set_cons_zero, List.set_cons_succ])
  refine wpAnyL_take (i := 11) (v := ?_) rfl (by kernel_rfl) (by kernel_rfl) (by kernel_rfl) (by kernel_rfl) (by kernel_rfl) (fun _ _ _ h => h) (Or.inl ⟨by first | kernel_rfl | rfl, ?_⟩) (by assumption) ?_; rotate_left; focus (intro w hSw; (try dsimp only at hSw); go_simp; try (with_reducible rfl)); (try simp only [Act.put, List.getElem_toArray, List.getElem_cons_succ, List.getElem_cons_zero, List.setIfInBounds_toArray, List.set_cons_zero, List.set_cons_succ])
  refine wpAnyL_take (i := 12) (v := ?_) rfl (by kernel_rfl) (by kernel_rfl) (by kernel_rfl) (by kernel_rfl) (by kernel_rfl) (fun _ _ _ h => h) (Or.inl ⟨by first | kernel_rfl | rfl, ?_⟩) (by assumption) ?_; rotate_left; focus (intro w hSw; (try dsimp only at hSw); go_simp; try (with_reducible rfl)); (try simp only [Act.put, List.getElem_toArray, List.getElem_cons_succ, List.getElem_cons_zero, List.setIfInBounds_toArray, List.set_cons_zero, List.set_cons_succ])
  refine wpAnyL_take (i := 15) (v := ?_) rfl (by kernel_rfl) (by kernel_rfl) (by kernel_rfl) (by kernel_rfl) (by kernel_rfl) (fun _ _ _ h => h) (Or.inl ⟨by first | kernel_rfl | rfl, ?_⟩) (by assumption) ?_; rotate_left; focus (intro w hSw; (try dsimp only at hSw); go_simp; try (with_reducible rfl)); (try simp only [Act.put, List.getElem_toArray, List.getElem_cons_succ, List.getElem_cons_zero, List.setIfInBounds_toArray, List.set_cons_zero, List.set_cons_succ])
  refine wpAnyL_take (i := 16) (v := ?_) rfl (by kernel_rfl) (by kernel_rfl) (by kernel_rfl) (by kernel_rfl) (by kernel_rfl) (fun _ _ _ h => h) (Or.inl ⟨by first | kernel_rfl | rfl, ?_⟩) (by assumption) ?_; rotate_left; focus (intro w hSw; (try dsimp only at hSw); go_simp; try (with_reducible rfl)); (try simp only [Act.put, List.getElem_toArray, List.getElem_cons_succ, List.getElem_cons_zero, List.setIfInBounds_toArray, List.set_cons_zero, List.set_cons_succ])
  refine wpAnyL_take (i := 17) (v := ?_) rfl (by kernel_rfl) (by kernel_rfl) (by kernel_rfl) (by kernel_rfl) (by kernel_rfl) (fun _ _ _ h => h) (Or.inl ⟨by first | kernel_rfl | rfl, ?_⟩) (by assumption) ?_; rotate_left; focus (intro w hSw; (try dsimp only at hSw); go_simp; try (with_reducible rfl)); (try simp only [Act.put, List.getElem_toArray, List.getElem_cons_succ, List.getElem_cons_zero, List.setIfInBounds_toArray, List.set_cons_zero, List.set_cons_succ])
  refine wpAnyL_take (i := 18) (v := ?_) rfl (by kernel_rfl) (by kernel_rfl) (by kernel_rfl) (by kernel_rfl) (by kernel_rfl) (fun _ _ _ h => h) (Or.inl ⟨by first | kernel_rfl | rfl, ?_⟩) (by assumption) ?_; rotate_left; focus (intro w hSw; (try dsimp only at hSw); go_simp; try (with_reducible rfl)); (try simp only [Act.put, List.getElem_toArray, List.getElem_cons_succ, List.getElem_cons_zero, List.setIfInBounds_toArray, List.set_cons_zero, List.set_cons_succ])
  refine wpAnyL_take (i := 19) (v := ?_) rfl (by kernel_rfl) (by kernel_rfl) (by kernel_rfl) (by kernel_rfl) (by kernel_rfl) (fun _ _ _ h => h) (Or.inl ⟨by first | kernel_rfl | rfl, ?_⟩) (by assumption) ?_; rotate_left; focus (intro w hSw; (try dsimp only at hSw); go_simp; try (with_reducible rfl)); (try simp only [Act.put, List.getElem_toArray, List.getElem_cons_succ, List.getElem_cons_zero, List.setIfInBounds_toArray, List.set_cons_zero, List.set_cons_succ])
  refine wpAnyL_any (i := 1) (v := ?_) rfl (by kernel_rfl) (by kernel_rfl) (by kernel_rfl) (fun _ _ _ h => h) (Or.inl ⟨by first | kernel_rfl | rfl, ?_⟩) ?_; rotate_left; focus (intro w hSw; (try dsimp only at hSw); go_simp; try (with_reducible rfl)); (try simp only [Act.put, List.getElem_toArray, List.getElem_cons_succ, List.getElem_cons_zero, List.setIfInBounds_toArray, List.set_cons_zero, List.set_cons_succ])
  refine wpAnyL_any (i := 2) (v := ?_) rfl (by kernel_rfl) (by kernel_rfl) (by kernel_rfl) (fun _ _ _ h => h) (Or.inl ⟨by first | kernel_rfl | rfl, ?_⟩) ?_; rotate_left; focus (intro w hSw; (try dsimp only at hSw); go_simp; try (with_reducible rfl)); (try simp only [Act.put, List.getElem_toArray, List.getElem_cons_succ, List.getElem_cons_zero, List.setIfInBounds_toArray, List.set_cons_zero, List.set_cons_succ])
  obtain ⟨wc, hwc⟩ : ∃ x, x = w1.drew := ⟨_, rfl⟩
  rw [← hwc] at OK OU OT KK
  rw [← hwc]
  clear hwc hHeld
  refine wpAnyL_ready (rs := [7, 13, 20]) (by kernel_rfl) (by simp) (AllL.cons rfl (fun K hK => ?_) (AllL.cons rfl (fun K hK => ?_) (AllL.cons rfl (fun K hK => ?_) AllL.nil)))
  ·
    go_simp
    obtain ⟨gK, hg⟩ : ∃ g, g = wc.heap.size := ⟨_, rfl⟩
    obtain ⟨wn, hwn⟩ : ∃ x, x = wc.alloc (.cells #[.string ⟨#[]⟩] 9) := ⟨_, rfl⟩
    have k0 : Keeps (fun _ => False) wc wn := by rw [hwn]; exact (Keeps.refl _ _).alloc _
    have OK := hide (OK.out.kept k0 (fun _ _ h => h))
    have OU := hide (OU.out.kept k0 (fun _ _ h => h))
    have OT := hide (OT.out.kept k0 (fun _ _ h => h))
    try (have LU := hide (LU.out.kept k0 (fun _ _ h => h)))
    try (have LT := hide (LT.out.kept k0 (fun _ _ h => h)))
    have KK := hide (KK.out.step0 k0)
    have LK : Hid (Own wn 0 9 1 (some ⟨gK, 0, none⟩) 1 1 [.string ⟨#[]⟩]) := hide (by rw [hwn]; exact Own.new_at wc 0 _ #[.string ⟨#[]⟩] 1 1 gK hg (Nat.zero_le _) (by simp [maxLen]) rfl)
    rw [← hwn, ← hg]
    refine hK.out _ _ (HSg.out _ KK.out) (fun _ => ?_)
    clear hK K hg hwn k0
    obtain ⟨wc, rfl⟩ : ∃ x : World, x = wn := ⟨_, rfl⟩
    (try simp only [Act.put, List.getElem_toArray, List.getElem_cons_succ, List.getElem_cons_zero, List.setIfInBounds_toArray, List.set_cons_zero, List.set_cons_succ])
    refine wpAnyL_ready (rs := [8, 13, 20]) (by kernel_rfl) (by simp) (AllL.cons rfl (fun K hK => ?_) (AllL.cons rfl (fun K hK => ?_) (AllL.cons rfl (fun K hK => ?_) AllL.nil)))
    ·
      refine step_app _ elemStr (by rfl) (.tmp 86) (.tmp 87) (by rfl) 0 (A := KA) (n := N) (c := kc) (kyCs E) (by simp [Act.eval, Act.put]) OK.out _ (A2 := some ⟨gK, 0, none⟩) (m := 1) (c2 := 1) [.string ⟨#[]⟩] (by simp [Act.eval, Act.put]) (LK.out.rd (by omega)) (by simp [Value.oneCell']) (by simp only [maxLen]; omega) (by omega) (Nat.zero_le _) ?_
      intro AK cK wn o8 k8 hA8
      have OU := hide (OU.out.kept k8 (fun q hq e => OK.out.ne OU.out (by decide) e hq))
      try (have LU := hide (LU.out.kept k8 (fun q hq e => OK.out.ne LU.out (by decide) e hq)))
      have OT := hide (OT.out.kept k8 (fun q hq e => OK.out.ne OT.out (by decide) e hq))
      try (have LT := hide (LT.out.kept k8 (fun q hq e => OK.out.ne LT.out (by decide) e hq)))
      have HK : Hid (∀ q, inB AK q → inB KA q ∨ w1.heap.size ≤ q) := hide (fun q hq => (hA8 q hq).imp id (fun h => by have := KK.out.size; omega))
      have KK := hide (KK.out.step k8 (fun q hq e => .inl e))
      have OK := hide o8
      clear o8 k8 hA8 LK
      refine hK.out _ _ (HSg.out _ KK.out) (fun _ => ?_)
      clear hK K
      obtain ⟨wc, rfl⟩ : ∃ x : World, x = wn := ⟨_, rfl⟩
      (try simp only [Act.put, List.getElem_toArray, List.getElem_cons_succ, List.getElem_cons_zero, List.setIfInBounds_toArray, List.set_cons_zero, List.set_cons_succ])
      refine wpAnyL_ready (rs := [13, 20]) (by kernel_rfl) (by simp) (AllL.cons rfl (fun K hK => ?_) (AllL.cons rfl (fun K hK => ?_) AllL.nil))
      ·
        go_simp
        obtain ⟨gU, hg⟩ : ∃ g, g = wc.heap.size := ⟨_, rfl⟩
        obtain ⟨wn, hwn⟩ : ∃ x, x = wc.alloc (.cells #[.int .i64 0] 3) := ⟨_, rfl⟩
        have k0 : Keeps (fun _ => False) wc wn := by rw [hwn]; exact (Keeps.refl _ _).alloc _
        have OK := hide (OK.out.kept k0 (fun _ _ h => h))
        have OU := hide (OU.out.kept k0 (fun _ _ h => h))
        have OT := hide (OT.out.kept k0 (fun _ _ h => h))
        try (have LK := hide (LK.out.kept k0 (fun _ _ h => h)))
        try (have LT := hide (LT.out.kept k0 (fun _ _ h => h)))
        have KK := hide (KK.out.step0 k0)
        have LU : Hid (Own wn 0 3 1 (some ⟨gU, 0, none⟩) 1 1 [.int .i64 0]) := hide (by rw [hwn]; exact Own.new_at wc 0 _ #[.int .i64 0] 1 1 gU hg (Nat.zero_le _) (by simp [maxLen]) rfl)
        rw [← hwn, ← hg]
        refine hK.out _ _ (HSg.out _ KK.out) (fun _ => ?_)
        clear hK K hg hwn k0
        obtain ⟨wc, rfl⟩ : ∃ x : World, x = wn := ⟨_, rfl⟩
        (try simp only [Act.put, List.getElem_toArray, List.getElem_cons_succ, List.getElem_cons_zero, List.setIfInBounds_toArray, List.set_cons_zero, List.set_cons_succ])
        refine wpAnyL_ready (rs := [14, 20]) (by kernel_rfl) (by simp) (AllL.cons rfl (fun K hK => ?_) (AllL.cons rfl (fun K hK => ?_) AllL.nil))
        ·
          refine step_app _ elemIntP (by rfl) (.tmp 92) (.tmp 93) (by rfl) 0 (A := UA) (n := N) (c := uc) (usCs E) (by simp [Act.eval, Act.put]) OU.out _ (A2 := some ⟨gU, 0, none⟩) (m := 1) (c2 := 1) [.int .i64 0] (by simp [Act.eval, Act.put]) (LU.out.rd (by omega)) (by simp [Value.oneCell']) (by simp only [maxLen]; omega) (by omega) (Nat.zero_le _) ?_
          intro AU cU wn o8 k8 hA8
          have OK := hide (OK.out.kept k8 (fun q hq e => OU.out.ne OK.out (by decide) e hq))
          try (have LK := hide (LK.out.kept k8 (fun q hq e => OU.out.ne LK.out (by decide) e hq)))
          have OT := hide (OT.out.kept k8 (fun q hq e => OU.out.ne OT.out (by decide) e hq))
          try (have LT := hide (LT.out.kept k8 (fun q hq e => OU.out.ne LT.out (by decide) e hq)))
          have HU : Hid (∀ q, inB AU q → inB UA q ∨ w1.heap.size ≤ q) := hide (fun q hq => (hA8 q hq).imp id (fun h => by have := KK.out.size; omega))
          have KK := hide (KK.out.step k8 (fun q hq e => .inr (.inl e)))
          have OU := hide o8
          clear o8 k8 hA8 LU
          refine hK.out _ _ (HSg.out _ KK.out) (fun _ => ?_)
          clear hK K
          obtain ⟨wc, rfl⟩ : ∃ x : World, x = wn := ⟨_, rfl⟩
          (try simp only [Act.put, List.getElem_toArray, List.getElem_cons_succ, List.getElem_cons_zero, List.setIfInBounds_toArray, List.set_cons_zero, List.set_cons_succ])
          refine wpAnyL_ready (rs := [20]) (by kernel_rfl) (by simp) (AllL.cons rfl (fun K hK => ?_) AllL.nil)
          go_simp
          obtain ⟨gT, hg⟩ : ∃ g, g = wc.heap.size := ⟨_, rfl⟩
          obtain ⟨wn, hwn⟩ : ∃ x, x = wc.alloc (.cells #[.int .i64 0, .int .i64 0, .int .i64 0] 40) := ⟨_, rfl⟩
          have k0 : Keeps (fun _ => False) wc wn := by rw [hwn]; exact (Keeps.refl _ _).alloc _
          have OK := hide (OK.out.kept k0 (fun _ _ h => h))
          have OU := hide (OU.out.kept k0 (fun _ _ h => h))
          have OT := hide (OT.out.kept k0 (fun _ _ h => h))
          try (have LK := hide (LK.out.kept k0 (fun _ _ h => h)))
          try (have LU := hide (LU.out.kept k0 (fun _ _ h => h)))
          have KK := hide (KK.out.step0 k0)
          have LT : Hid (Own wn 0 40 3 (some ⟨gT, 0, none⟩) 1 1 [.int .i64 0, .int .i64 0, .int .i64 0]) := hide (by rw [hwn]; exact Own.new_at wc 0 _ #[.int .i64 0, .int .i64 0, .int .i64 0] 1 3 gT hg (Nat.zero_le _) (by simp [maxLen]) rfl)
          rw [← hwn, ← hg]
          refine hK.out _ _ (HSg.out _ KK.out) (fun _ => ?_)
          clear hK K hg hwn k0
          obtain ⟨wc, rfl⟩ : ∃ x : World, x = wn := ⟨_, rfl⟩
          (try simp only [Act.put, List.getElem_toArray, List.getElem_cons_succ, List.getElem_cons_zero, List.setIfInBounds_toArray, List.set_cons_zero, List.set_cons_succ])
          refine wpAnyL_ready (rs := [21]) (by kernel_rfl) (by simp) (AllL.cons rfl (fun K hK => ?_) AllL.nil)
          refine step_app _ elemHdP (by rfl) (.tmp 98) (.tmp 100) (by rfl) 0 (A := TA) (n := N) (c := tc) (pehCs E) (by simp [Act.eval, Act.put]) OT.out _ (A2 := some ⟨gT, 0, none⟩) (m := 1) (c2 := 1) [.int .i64 0, .int .i64 0, .int .i64 0] (by simp [Act.eval, Act.put]) (LT.out.rd (by omega)) (by simp [Value.oneCell']) (by simp only [maxLen]; omega) (by omega) (Nat.zero_le _) ?_
          intro AT cT wn o8 k8 hA8
          have OK := hide (OK.out.kept k8 (fun q hq e => OT.out.ne OK.out (by decide) e hq))
          try (have LK := hide (LK.out.kept k8 (fun q hq e => OT.out.ne LK.out (by decide) e hq)))
          have OU := hide (OU.out.kept k8 (fun q hq e => OT.out.ne OU.out (by decide) e hq))
          try (have LU := hide (LU.out.kept k8 (fun q hq e => OT.out.ne LU.out (by decide) e hq)))
          have HT : Hid (∀ q, inB AT q → inB TA q ∨ w1.heap.size ≤ q) := hide (fun q hq => (hA8 q hq).imp id (fun h => by have := KK.out.size; omega))
          have KK := hide (KK.out.step k8 (fun q hq e => .inr (.inr e)))
          have OT := hide o8
          clear o8 k8 hA8 LT
          refine hK.out _ _ (HSg.out _ KK.out) (fun _ => ?_)
          clear hK K
          obtain ⟨wc, rfl⟩ : ∃ x : World, x = wn := ⟨_, rfl⟩
          (try simp only [Act.put, List.getElem_toArray, List.getElem_cons_succ, List.getElem_cons_zero, List.setIfInBounds_toArray, List.set_cons_zero, List.set_cons_succ])
          have b8 := HR.out.blk.kept KK.out (fun e => HP.out e)
          have f2 := b8.frozen 2
          have f3 := b8.frozen 3
          have f4 := b8.frozen 4
          have d2 := b8.cell 2
          have d3 := b8.cell 3
          have d4 := b8.cell 4
          have hpl8 := b8.lt
          clear b8
          refine wpAnyL_any (i := 22) (v := ?_) rfl (by kernel_rfl) (by kernel_rfl) (by kernel_rfl) (fun _ _ _ h => h) (Or.inl ⟨by first | kernel_rfl | rfl, ?_⟩) ?_; rotate_left; focus (intro w hSw; (try dsimp only at hSw); go_simp; try (with_reducible rfl)); (try simp only [Act.put, List.getElem_toArray, List.getElem_cons_succ, List.getElem_cons_zero, List.setIfInBounds_toArray, List.set_cons_zero, List.set_cons_succ])
          refine wpAnyL_any (i := 23) (v := ?_) rfl (by kernel_rfl) (by kernel_rfl) (by kernel_rfl) (fun _ _ _ h => h) (Or.inl ⟨by first | kernel_rfl | rfl, ?_⟩) ?_; rotate_left; focus (intro w hSw; (try dsimp only at hSw); go_simp; try (with_reducible rfl)); (try simp only [Act.put, List.getElem_toArray, List.getElem_cons_succ, List.getElem_cons_zero, List.setIfInBounds_toArray, List.set_cons_zero, List.set_cons_succ])
          refine wpAnyL_ready (rs := [24]) (by kernel_rfl) (by simp) (AllL.last rfl rfl (fun K hK => ?_) AllL.nil)
          go_simp
          refine hK.out _ _ ?_
          clear hK K
          (try simp only [Act.put, List.getElem_toArray, List.getElem_cons_succ, List.getElem_cons_zero, List.setIfInBounds_toArray, List.set_cons_zero, List.set_cons_succ])
          refine wpAnyL_any (i := 25) (v := ?_) rfl (by kernel_rfl) (by kernel_rfl) (by kernel_rfl) (fun _ _ _ h => h) (Or.inl ⟨by first | kernel_rfl | rfl, ?_⟩) ?_; rotate_left; focus (intro w hSw; (try dsimp only at hSw); go_simp; try (with_reducible rfl)); (try simp only [Act.put, List.getElem_toArray, List.getElem_cons_succ, List.getElem_cons_zero, List.setIfInBounds_toArray, List.set_cons_zero, List.set_cons_succ])
          refine wpAnyL_any (i := 26) (v := ?_) rfl (by kernel_rfl) (by kernel_rfl) (by kernel_rfl) (fun _ _ _ h => h) (Or.inl ⟨by first | kernel_rfl | rfl, ?_⟩) ?_; rotate_left; focus (intro w hSw; (try dsimp only at hSw); go_simp; try (with_reducible rfl)); (try simp only [Act.put, List.getElem_toArray, List.getElem_cons_succ, List.getElem_cons_zero, List.setIfInBounds_toArray, List.set_cons_zero, List.set_cons_succ])
          refine wpAnyL_ready (rs := [27]) (by kernel_rfl) (by simp) (AllL.last rfl rfl (fun K hK => ?_) AllL.nil)
          go_simp
          refine hK.out _ _ ?_
          clear hK K
          (try simp only [Act.put, List.getElem_toArray, List.getElem_cons_succ, List.getElem_cons_zero, List.setIfInBounds_toArray, List.set_cons_zero, List.set_cons_succ])
          refine wpAnyL_any (i := 28) (v := ?_) rfl (by kernel_rfl) (by kernel_rfl) (by kernel_rfl) (fun _ _ _ h => h) (Or.inl ⟨by first | kernel_rfl | rfl, ?_⟩) ?_; rotate_left; focus (intro w hSw; (try dsimp only at hSw); go_simp; try (with_reducible rfl)); (try simp only [Act.put, List.getElem_toArray, List.getElem_cons_succ, List.getElem_cons_zero, List.setIfInBounds_toArray, List.set_cons_zero, List.set_cons_succ])
          refine wpAnyL_any (i := 29) (v := ?_) rfl (by kernel_rfl) (by kernel_rfl) (by kernel_rfl) (fun _ _ _ h => h) (Or.inl ⟨by first | kernel_rfl | rfl, ?_⟩) ?_; rotate_left; focus (intro w hSw; (try dsimp only at hSw); go_simp; try (with_reducible rfl)); (try simp only [Act.put, List.getElem_toArray, List.getElem_cons_succ, List.getElem_cons_zero, List.setIfInBounds_toArray, List.set_cons_zero, List.set_cons_succ])
          refine wpAnyL_ready (rs := [30]) (by kernel_rfl) (by simp) (AllL.last rfl rfl (fun K hK => ?_) AllL.nil)
          go_simp
          refine hK.out _ _ ?_
          clear hK K
          (try simp only [Act.put, List.getElem_toArray, List.getElem_cons_succ, List.getElem_cons_zero, List.setIfInBounds_toArray, List.set_cons_zero, List.set_cons_succ])
          refine wpAnyL_done (by kernel_rfl) ?_ _
          (try simp only [Act.put, List.getElem_toArray, List.getElem_cons_succ, List.getElem_cons_zero, List.setIfInBounds_toArray, List.set_cons_zero, List.set_cons_succ])
          refine show _ ∧ _ from ⟨⟨_, _, _, _, _, _, _, _, _, _, _, _, _, _, _, _, _, _, _, _, _, _, _, _, _, _, _, _, rfl⟩, ?_⟩
          exact HFin.out wc AK cK AU cU AT cT KK.out OK.out HK.out OU.out HU.out OT.out HT.out
          trace "LEAF1"
        ·
          go_simp
          obtain ⟨gT, hg⟩ : ∃ g, g = wc.heap.size := ⟨_, rfl⟩
          obtain ⟨wn, hwn⟩ : ∃ x, x = wc.alloc (.cells #[.int .i64 0, .int .i64 0, .int .i64 0] 40) := ⟨_, rfl⟩
          have k0 : Keeps (fun _ => False) wc wn := by rw [hwn]; exact (Keeps.refl _ _).alloc _
          have OK := hide (OK.out.kept k0 (fun _ _ h => h))
          have OU := hide (OU.out.kept k0 (fun _ _ h => h))
          have OT := hide (OT.out.kept k0 (fun _ _ h => h))
          try (have LK := hide (LK.out.kept k0 (fun _ _ h => h)))
          try (have LU := hide (LU.out.kept k0 (fun _ _ h => h)))
          have KK := hide (KK.out.step0 k0)
          have LT : Hid (Own wn 0 40 3 (some ⟨gT, 0, none⟩) 1 1 [.int .i64 0, .int .i64 0, .int .i64 0]) := hide (by rw [hwn]; exact Own.new_at wc 0 _ #[.int .i64 0, .int .i64 0, .int .i64 0] 1 3 gT hg (Nat.zero_le _) (by simp [maxLen]) rfl)
          rw [← hwn, ← hg]
          refine hK.out _ _ (HSg.out _ KK.out) (fun _ => ?_)
          clear hK K hg hwn k0
          obtain ⟨wc, rfl⟩ : ∃ x : World, x = wn := ⟨_, rfl⟩
          (try simp only [Act.put, List.getElem_toArray, List.getElem_cons_succ, List.getElem_cons_zero, List.setIfInBounds_toArray, List.set_cons_zero, List.set_cons_succ])
          refine wpAnyL_ready (rs := [14]) (by kernel_rfl) (by simp) (AllL.cons rfl (fun K hK => ?_) AllL.nil)
          refine step_app _ elemIntP (by rfl) (.tmp 92) (.tmp 93) (by rfl) 0 (A := UA) (n := N) (c := uc) (usCs E) (by simp [Act.eval, Act.put]) OU.out _ (A2 := some ⟨gU, 0, none⟩) (m := 1) (c2 := 1) [.int .i64 0] (by simp [Act.eval, Act.put]) (LU.out.rd (by omega)) (by simp [Value.oneCell']) (by simp only [maxLen]; omega) (by omega) (Nat.zero_le _) ?_
          intro AU cU wn o8 k8 hA8
          have OK := hide (OK.out.kept k8 (fun q hq e => OU.out.ne OK.out (by decide) e hq))
          try (have LK := hide (LK.out.kept k8 (fun q hq e => OU.out.ne LK.out (by decide) e hq)))
          have OT := hide (OT.out.kept k8 (fun q hq e => OU.out.ne OT.out (by decide) e hq))
          try (have LT := hide (LT.out.kept k8 (fun q hq e => OU.out.ne LT.out (by decide) e hq)))
          have HU : Hid (∀ q, inB AU q → inB UA q ∨ w1.heap.size ≤ q) := hide (fun q hq => (hA8 q hq).imp id (fun h => by have := KK.out.size; omega))
          have KK := hide (KK.out.step k8 (fun q hq e => .inr (.inl e)))
          have OU := hide o8
          clear o8 k8 hA8 LU
          refine hK.out _ _ (HSg.out _ KK.out) (fun _ => ?_)
          clear hK K
          obtain ⟨wc, rfl⟩ : ∃ x : World, x = wn := ⟨_, rfl⟩
          (try simp only [Act.put, List.getElem_toArray, List.getElem_cons_succ, List.getElem_cons_zero, List.setIfInBounds_toArray, List.set_cons_zero, List.set_cons_succ])
          refine wpAnyL_ready (rs := [21]) (by kernel_rfl) (by simp) (AllL.cons rfl (fun K hK => ?_) AllL.nil)
          refine step_app _ elemHdP (by rfl) (.tmp 98) (.tmp 100) (by rfl) 0 (A := TA) (n := N) (c := tc) (pehCs E) (by simp [Act.eval, Act.put]) OT.out _ (A2 := some ⟨gT, 0, none⟩) (m := 1) (c2 := 1) [.int .i64 0, .int .i64 0, .int .i64 0] (by simp [Act.eval, Act.put]) (LT.out.rd (by omega)) (by simp [Value.oneCell']) (by simp only [maxLen]; omega) (by omega) (Nat.zero_le _) ?_
          intro AT cT wn o8 k8 hA8
          have OK := hide (OK.out.kept k8 (fun q hq e => OT.out.ne OK.out (by decide) e hq))
          try (have LK := hide (LK.out.kept k8 (fun q hq e => OT.out.ne LK.out (by decide) e hq)))
          have OU := hide (OU.out.kept k8 (fun q hq e => OT.out.ne OU.out (by decide) e hq))
          try (have LU := hide (LU.out.kept k8 (fun q hq e => OT.out.ne LU.out (by decide) e hq)))
          have HT : Hid (∀ q, inB AT q → inB TA q ∨ w1.heap.size ≤ q) := hide (fun q hq => (hA8 q hq).imp id (fun h => by have := KK.out.size; omega))
          have KK := hide (KK.out.step k8 (fun q hq e => .inr (.inr e)))
          have OT := hide o8
          clear o8 k8 hA8 LT
          refine hK.out _ _ (HSg.out _ KK.out) (fun _ => ?_)
          clear hK K
          obtain ⟨wc, rfl⟩ : ∃ x : World, x = wn := ⟨_, rfl⟩
          (try simp only [Act.put, List.getElem_toArray, List.getElem_cons_succ, List.getElem_cons_zero, List.setIfInBounds_toArray, List.set_cons_zero, List.set_cons_succ])
          have b8 := HR.out.blk.kept KK.out (fun e => HP.out e)
          have f2 := b8.frozen 2
          have f3 := b8.frozen 3
          have f4 := b8.frozen 4
          have d2 := b8.cell 2
          have d3 := b8.cell 3
          have d4 := b8.cell 4
          have hpl8 := b8.lt
          clear b8
          refine wpAnyL_any (i := 22) (v := ?_) rfl (by kernel_rfl) (by kernel_rfl) (by kernel_rfl) (fun _ _ _ h => h) (Or.inl ⟨by first | kernel_rfl | rfl, ?_⟩) ?_; rotate_left; focus (intro w hSw; (try dsimp only at hSw); go_simp; try (with_reducible rfl)); (try simp only [Act.put, List.getElem_toArray, List.getElem_cons_succ, List.getElem_cons_zero, List.setIfInBounds_toArray, List.set_cons_zero, List.set_cons_succ])
          refine wpAnyL_any (i := 23) (v := ?_) rfl (by kernel_rfl) (by kernel_rfl) (by kernel_rfl) (fun _ _ _ h => h) (Or.inl ⟨by first | kernel_rfl | rfl, ?_⟩) ?_; rotate_left; focus (intro w hSw; (try dsimp only at hSw); go_simp; try (with_reducible rfl)); (try simp only [Act.put, List.getElem_toArray, List.getElem_cons_succ, List.getElem_cons_zero, List.setIfInBounds_toArray, List.set_cons_zero, List.set_cons_succ])
          refine wpAnyL_ready (rs := [24]) (by kernel_rfl) (by simp) (AllL.last rfl rfl (fun K hK => ?_) AllL.nil)
          go_simp
          refine hK.out _ _ ?_
          clear hK K
          (try simp only [Act.put, List.getElem_toArray, List.getElem_cons_succ, List.getElem_cons_zero, List.setIfInBounds_toArray, List.set_cons_zero, List.set_cons_succ])
          refine wpAnyL_any (i := 25) (v := ?_) rfl (by kernel_rfl) (by kernel_rfl) (by kernel_rfl) (fun _ _ _ h => h) (Or.inl ⟨by first | kernel_rfl | rfl, ?_⟩) ?_; rotate_left; focus (intro w hSw; (try dsimp only at hSw); go_simp; try (with_reducible rfl)); (try simp only [Act.put, List.getElem_toArray, List.getElem_cons_succ, List.getElem_cons_zero, List.setIfInBounds_toArray, List.set_cons_zero, List.set_cons_succ])
          refine wpAnyL_any (i := 26) (v := ?_) rfl (by kernel_rfl) (by kernel_rfl) (by kernel_rfl) (fun _ _ _ h => h) (Or.inl ⟨by first | kernel_rfl | rfl, ?_⟩) ?_; rotate_left; focus (intro w hSw; (try dsimp only at hSw); go_simp; try (with_reducible rfl)); (try simp only [Act.put, List.getElem_toArray, List.getElem_cons_succ, List.getElem_cons_zero, List.setIfInBounds_toArray, List.set_cons_zero, List.set_cons_succ])
          refine wpAnyL_ready (rs := [27]) (by kernel_rfl) (by simp) (AllL.last rfl rfl (fun K hK => ?_) AllL.nil)
          go_simp
          refine hK.out _ _ ?_
          clear hK K
          (try simp only [Act.put, List.getElem_toArray, List.getElem_cons_succ, List.getElem_cons_zero, List.setIfInBounds_toArray, List.set_cons_zero, List.set_cons_succ])
          refine wpAnyL_any (i := 28) (v := ?_) rfl (by kernel_rfl) (by kernel_rfl) (by kernel_rfl) (fun _ _ _ h => h) (Or.inl ⟨by first | kernel_rfl | rfl, ?_⟩) ?_; rotate_left; focus (intro w hSw; (try dsimp only at hSw); go_simp; try (with_reducible rfl)); (try simp only [Act.put, List.getElem_toArray, List.getElem_cons_succ, List.getElem_cons_zero, List.setIfInBounds_toArray, List.set_cons_zero, List.set_cons_succ])
          refine wpAnyL_any (i := 29) (v := ?_) rfl (by kernel_rfl) (by kernel_rfl) (by kernel_rfl) (fun _ _ _ h => h) (Or.inl ⟨by first | kernel_rfl | rfl, ?_⟩) ?_; rotate_left; focus (intro w hSw; (try dsimp only at hSw); go_simp; try (with_reducible rfl)); (try simp only [Act.put, List.getElem_toArray, List.getElem_cons_succ, List.getElem_cons_zero, List.setIfInBounds_toArray, List.set_cons_zero, List.set_cons_succ])
          refine wpAnyL_ready (rs := [30]) (by kernel_rfl) (by simp) (AllL.last rfl rfl (fun K hK => ?_) AllL.nil)
          go_simp
          refine hK.out _ _ ?_
          clear hK K
          (try simp only [Act.put, List.getElem_toArray, List.getElem_cons_succ, List.getElem_cons_zero, List.setIfInBounds_toArray, List.set_cons_zero, List.set_cons_succ])
          refine wpAnyL_done (by kernel_rfl) ?_ _
          (try simp only [Act.put, List.getElem_toArray, List.getElem_cons_succ, List.getElem_cons_zero, List.setIfInBounds_toArray, List.set_cons_zero, List.set_cons_succ])
          refine show _ ∧ _ from ⟨⟨_, _, _, _, _, _, _, _, _, _, _, _, _, _, _, _, _, _, _, _, _, _, _, _, _, _, _, _, rfl⟩, ?_⟩
          exact HFin.out wc AK cK AU cU AT cT KK.out OK.out HK.out OU.out HU.out OT.out HT.out
          trace "LEAF2"
      ·
        go_simp
        obtain ⟨gT, hg⟩ : ∃ g, g = wc.heap.size := ⟨_, rfl⟩
        obtain ⟨wn, hwn⟩ : ∃ x, x = wc.alloc (.cells #[.int .i64 0, .int .i64 0, .int .i64 0] 40) := ⟨_, rfl⟩
        have k0 : Keeps (fun _ => False) wc wn := by rw [hwn]; exact (Keeps.refl _ _).alloc _
        have OK := hide (OK.out.kept k0 (fun _ _ h => h))
        have OU := hide (OU.out.kept k0 (fun _ _ h => h))
        have OT := hide (OT.out.kept k0 (fun _ _ h => h))
        try (have LK := hide (LK.out.kept k0 (fun _ _ h => h)))
        try (have LU := hide (LU.out.kept k0 (fun _ _ h => h)))
        have KK := hide (KK.out.step0 k0)
        have LT : Hid (Own wn 0 40 3 (some ⟨gT, 0, none⟩) 1 1 [.int .i64 0, .int .i64 0, .int .i64 0]) := hide (by rw [hwn]; exact Own.new_at wc 0 _ #[.int .i64 0, .int .i64 0, .int .i64 0] 1 3 gT hg (Nat.zero_le _) (by simp [maxLen]) rfl)
        rw [← hwn, ← hg]
        refine hK.out _ _ (HSg.out _ KK.out) (fun _ => ?_)
        clear hK K hg hwn k0
        obtain ⟨wc, rfl⟩ : ∃ x : World, x = wn := ⟨_, rfl⟩
        (try simp only [Act.put, List.getElem_toArray, List.getElem_cons_succ, List.getElem_cons_zero, List.setIfInBounds_toArray, List.set_cons_zero, List.set_cons_succ])
        refine wpAnyL_ready (rs := [13]) (by kernel_rfl) (by simp) (AllL.cons rfl (fun K hK => ?_) AllL.nil)
        go_simp
        obtain ⟨gU, hg⟩ : ∃ g, g = wc.heap.size := ⟨_, rfl⟩
        obtain ⟨wn, hwn⟩ : ∃ x, x = wc.alloc (.cells #[.int .i64 0] 3) := ⟨_, rfl⟩
        have k0 : Keeps (fun _ => False) wc wn := by rw [hwn]; exact (Keeps.refl _ _).alloc _
        have OK := hide (OK.out.kept k0 (fun _ _ h => h))
        have OU := hide (OU.out.kept k0 (fun _ _ h => h))
        have OT := hide (OT.out.kept k0 (fun _ _ h => h))
        try (have LK := hide (LK.out.kept k0 (fun _ _ h => h)))
        try (have LT := hide (LT.out.kept k0 (fun _ _ h => h)))
        have KK := hide (KK.out.step0 k0)
        have LU : Hid (Own wn 0 3 1 (some ⟨gU, 0, none⟩) 1 1 [.int .i64 0]) := hide (by rw [hwn]; exact Own.new_at wc 0 _ #[.int .i64 0] 1 1 gU hg (Nat.zero_le _) (by simp [maxLen]) rfl)
        rw [← hwn, ← hg]
        refine hK.out _ _ (HSg.out _ KK.out) (fun _ => ?_)
        clear hK K hg hwn k0
        obtain ⟨wc, rfl⟩ : ∃ x : World, x = wn := ⟨_, rfl⟩
        (try simp only [Act.put, List.getElem_toArray, List.getElem_cons_succ, List.getElem_cons_zero, List.setIfInBounds_toArray, List.set_cons_zero, List.set_cons_succ])
        refine wpAnyL_ready (rs := [14]) (by kernel_rfl) (by simp) (AllL.cons rfl (fun K hK => ?_) AllL.nil)
        refine step_app _ elemIntP (by rfl) (.tmp 92) (.tmp 93) (by rfl) 0 (A := UA) (n := N) (c := uc) (usCs E) (by simp [Act.eval, Act.put]) OU.out _ (A2 := some ⟨gU, 0, none⟩) (m := 1) (c2 := 1) [.int .i64 0] (by simp [Act.eval, Act.put]) (LU.out.rd (by omega)) (by simp [Value.oneCell']) (by simp only [maxLen]; omega) (by omega) (Nat.zero_le _) ?_
        intro AU cU wn o8 k8 hA8
        have OK := hide (OK.out.kept k8 (fun q hq e => OU.out.ne OK.out (by decide) e hq))
        try (have LK := hide (LK.out.kept k8 (fun q hq e => OU.out.ne LK.out (by decide) e hq)))
        have OT := hide (OT.out.kept k8 (fun q hq e => OU.out.ne OT.out (by decide) e hq))
        try (have LT := hide (LT.out.kept k8 (fun q hq e => OU.out.ne LT.out (by decide) e hq)))
        have HU : Hid (∀ q, inB AU q → inB UA q ∨ w1.heap.size ≤ q) := hide (fun q hq => (hA8 q hq).imp id (fun h => by have := KK.out.size; omega))
        have KK := hide (KK.out.step k8 (fun q hq e => .inr (.inl e)))
        have OU := hide o8
        clear o8 k8 hA8 LU
        refine hK.out _ _ (HSg.out _ KK.out) (fun _ => ?_)
        clear hK K
        obtain ⟨wc, rfl⟩ : ∃ x : World, x = wn := ⟨_, rfl⟩
        (try simp only [Act.put, List.getElem_toArray, List.getElem_cons_succ, List.getElem_cons_zero, List.setIfInBounds_toArray, List.set_cons_zero, List.set_cons_succ])
        refine wpAnyL_ready (rs := [21]) (by kernel_rfl) (by simp) (AllL.cons rfl (fun K hK => ?_) AllL.nil)
        refine step_app _ elemHdP (by rfl) (.tmp 98) (.tmp 100) (by rfl) 0 (A := TA) (n := N) (c := tc) (pehCs E) (by simp [Act.eval, Act.put]) OT.out _ (A2 := some ⟨gT, 0, none⟩) (m := 1) (c2 := 1) [.int .i64 0, .int .i64 0, .int .i64 0] (by simp [Act.eval, Act.put]) (LT.out.rd (by omega)) (by simp [Value.oneCell']) (by simp only [maxLen]; omega) (by omega) (Nat.zero_le _) ?_
        intro AT cT wn o8 k8 hA8
        have OK := hide (OK.out.kept k8 (fun q hq e => OT.out.ne OK.out (by decide) e hq))
        try (have LK := hide (LK.out.kept k8 (fun q hq e => OT.out.ne LK.out (by decide) e hq)))
        have OU := hide (OU.out.kept k8 (fun q hq e => OT.out.ne OU.out (by decide) e hq))
        try (have LU := hide (LU.out.kept k8 (fun q hq e => OT.out.ne LU.out (by decide) e hq)))
        have HT : Hid (∀ q, inB AT q → inB TA q ∨ w1.heap.size ≤ q) := hide (fun q hq => (hA8 q hq).imp id (fun h => by have := KK.out.size; omega))
        have KK := hide (KK.out.step k8 (fun q hq e => .inr (.inr e)))
        have OT := hide o8
        clear o8 k8 hA8 LT
        refine hK.out _ _ (HSg.out _ KK.out) (fun _ => ?_)
        clear hK K
        obtain ⟨wc, rfl⟩ : ∃ x : World, x = wn := ⟨_, rfl⟩
        (try simp only [Act.put, List.getElem_toArray, List.getElem_cons_succ, List.getElem_cons_zero, List.setIfInBounds_toArray, List.set_cons_zero, List.set_cons_succ])
        have b8 := HR.out.blk.kept KK.out (fun e => HP.out e)
        have f2 := b8.frozen 2
        have f3 := b8.frozen 3
        have f4 := b8.frozen 4
        have d2 := b8.cell 2
        have d3 := b8.cell 3
        have d4 := b8.cell 4
        have hpl8 := b8.lt
        clear b8
        refine wpAnyL_any (i := 22) (v := ?_) rfl (by kernel_rfl) (by kernel_rfl) (by kernel_rfl) (fun _ _ _ h => h) (Or.inl ⟨by first | kernel_rfl | rfl, ?_⟩) ?_; rotate_left; focus (intro w hSw; (try dsimp only at hSw); go_simp; try (with_reducible rfl)); (try simp only [Act.put, List.getElem_toArray, List.getElem_cons_succ, List.getElem_cons_zero, List.setIfInBounds_toArray, List.set_cons_zero, List.set_cons_succ])
        refine wpAnyL_any (i := 23) (v := ?_) rfl (by kernel_rfl) (by kernel_rfl) (by kernel_rfl) (fun _ _ _ h => h) (Or.inl ⟨by first | kernel_rfl | rfl, ?_⟩) ?_; rotate_left; focus (intro w hSw; (try dsimp only at hSw); go_simp; try (with_reducible rfl)); (try simp only [Act.put, List.getElem_toArray, List.getElem_cons_succ, List.getElem_cons_zero, List.setIfInBounds_toArray, List.set_cons_zero, List.set_cons_succ])
        refine wpAnyL_ready (rs := [24]) (by kernel_rfl) (by simp) (AllL.last rfl rfl (fun K hK => ?_) AllL.nil)
        go_simp
        refine hK.out _ _ ?_
        clear hK K
        (try simp only [Act.put, List.getElem_toArray, List.getElem_cons_succ, List.getElem_cons_zero, List.setIfInBounds_toArray, List.set_cons_zero, List.set_cons_succ])
        refine wpAnyL_any (i := 25) (v := ?_) rfl (by kernel_rfl) (by kernel_rfl) (by kernel_rfl) (fun _ _ _ h => h) (Or.inl ⟨by first | kernel_rfl | rfl, ?_⟩) ?_; rotate_left; focus (intro w hSw; (try dsimp only at hSw); go_simp; try (with_reducible rfl)); (try simp only [Act.put, List.getElem_toArray, List.getElem_cons_succ, List.getElem_cons_zero, List.setIfInBounds_toArray, List.set_cons_zero, List.set_cons_succ])
        refine wpAnyL_any (i := 26) (v := ?_) rfl (by kernel_rfl) (by kernel_rfl) (by kernel_rfl) (fun _ _ _ h => h) (Or.inl ⟨by first | kernel_rfl | rfl, ?_⟩) ?_; rotate_left; focus (intro w hSw; (try dsimp only at hSw); go_simp; try (with_reducible rfl)); (try simp only [Act.put, List.getElem_toArray, List.getElem_cons_succ, List.getElem_cons_zero, List.setIfInBounds_toArray, List.set_cons_zero, List.set_cons_succ])
        refine wpAnyL_ready (rs := [27]) (by kernel_rfl) (by simp) (AllL.last rfl rfl (fun K hK => ?_) AllL.nil)
        go_simp
        refine hK.out _ _ ?_
        clear hK K
        (try simp only [Act.put, List.getElem_toArray, List.getElem_cons_succ, List.getElem_cons_zero, List.setIfInBounds_toArray, List.set_cons_zero, List.set_cons_succ])
        refine wpAnyL_any (i := 28) (v := ?_) rfl (by kernel_rfl) (by kernel_rfl) (by kernel_rfl) (fun _ _ _ h => h) (Or.inl ⟨by first | kernel_rfl | rfl, ?_⟩) ?_; rotate_left; focus (intro w hSw; (try dsimp only at hSw); go_simp; try (with_reducible rfl)); (try simp only [Act.put, List.getElem_toArray, List.getElem_cons_succ, List.getElem_cons_zero, List.setIfInBounds_toArray, List.set_cons_zero, List.set_cons_succ])
        refine wpAnyL_any (i := 29) (v := ?_) rfl (by kernel_rfl) (by kernel_rfl) (by kernel_rfl) (fun _ _ _ h => h) (Or.inl ⟨by first | kernel_rfl | rfl, ?_⟩) ?_; rotate_left; focus (intro w hSw; (try dsimp only at hSw); go_simp; try (with_reducible rfl)); (try simp only [Act.put, List.getElem_toArray, List.getElem_cons_succ, List.getElem_cons_zero, List.setIfInBounds_toArray, List.set_cons_zero, List.set_cons_succ])
        refine wpAnyL_ready (rs := [30]) (by kernel_rfl) (by simp) (AllL.last rfl rfl (fun K hK => ?_) AllL.nil)
        go_simp
        refine hK.out _ _ ?_
        clear hK K
        (try simp only [Act.put, List.getElem_toArray, List.getElem_cons_succ, List.getElem_cons_zero, List.setIfInBounds_toArray, List.set_cons_zero, List.set_cons_succ])
        refine wpAnyL_done (by kernel_rfl) ?_ _
        (try simp only [Act.put, List.getElem_toArray, List.getElem_cons_succ, List.getElem_cons_zero, List.setIfInBounds_toArray, List.set_cons_zero, List.set_cons_succ])
        refine show _ ∧ _ from ⟨⟨_, _, _, _, _, _, _, _, _, _, _, _, _, _, _, _, _, _, _, _, _, _, _, _, _, _, _, _, rfl⟩, ?_⟩
        exact HFin.out wc AK cK AU cU AT cT KK.out OK.out HK.out OU.out HU.out OT.out HT.out
        trace "LEAF3"
    ·
      go_simp
      obtain ⟨gU, hg⟩ : ∃ g, g = wc.heap.size := ⟨_, rfl⟩
      obtain ⟨wn, hwn⟩ : ∃ x, x = wc.alloc (.cells #[.int .i64 0] 3) := ⟨_, rfl⟩
      have k0 : Keeps (fun _ => False) wc wn := by rw [hwn]; exact (Keeps.refl _ _).alloc _
      have OK := hide (OK.out.kept k0 (fun _ _ h => h))
      have OU := hide (OU.out.kept k0 (fun _ _ h => h))
      have OT := hide (OT.out.kept k0 (fun _ _ h => h))
      try (have LK := hide (LK.out.kept k0 (fun _ _ h => h)))
      try (have LT := hide (LT.out.kept k0 (fun _ _ h => h)))
      have KK := hide (KK.out.step0 k0)
      have LU : Hid (Own wn 0 3 1 (some ⟨gU, 0, none⟩) 1 1 [.int .i64 0]) := hide (by rw [hwn]; exact Own.new_at wc 0 _ #[.int .i64 0] 1 1 gU hg (Nat.zero_le _) (by simp [maxLen]) rfl)
      rw [← hwn, ← hg]
      refine hK.out _ _ (HSg.out _ KK.out) (fun _ => ?_)
      clear hK K hg hwn k0
      obtain ⟨wc, rfl⟩ : ∃ x : World, x = wn := ⟨_, rfl⟩
      (try simp only [Act.put, List.getElem_toArray, List.getElem_cons_succ, List.getElem_cons_zero, List.setIfInBounds_toArray, List.set_cons_zero, List.set_cons_succ])
      refine wpAnyL_ready (rs := [8, 20]) (by kernel_rfl) (by simp) (AllL.cons rfl (fun K hK => ?_) (AllL.cons rfl (fun K hK => ?_) AllL.nil))
      ·
        refine step_app _ elemStr (by rfl) (.tmp 86) (.tmp 87) (by rfl) 0 (A := KA) (n := N) (c := kc) (kyCs E) (by simp [Act.eval, Act.put]) OK.out _ (A2 := some ⟨gK, 0, none⟩) (m := 1) (c2 := 1) [.string ⟨#[]⟩] (by simp [Act.eval, Act.put]) (LK.out.rd (by omega)) (by simp [Value.oneCell']) (by simp only [maxLen]; omega) (by omega) (Nat.zero_le _) ?_
        intro AK cK wn o8 k8 hA8
        have OU := hide (OU.out.kept k8 (fun q hq e => OK.out.ne OU.out (by decide) e hq))
        try (have LU := hide (LU.out.kept k8 (fun q hq e => OK.out.ne LU.out (by decide) e hq)))
        have OT := hide (OT.out.kept k8 (fun q hq e => OK.out.ne OT.out (by decide) e hq))
        try (have LT := hide (LT.out.kept k8 (fun q hq e => OK.out.ne LT.out (by decide) e hq)))
        have HK : Hid (∀ q, inB AK q → inB KA q ∨ w1.heap.size ≤ q) := hide (fun q hq => (hA8 q hq).imp id (fun h => by have := KK.out.size; omega))
        have KK := hide (KK.out.step k8 (fun q hq e => .inl e))
        have OK := hide o8
        clear o8 k8 hA8 LK
        refine hK.out _ _ (HSg.out _ KK.out) (fun _ => ?_)
        clear hK K
        obtain ⟨wc, rfl⟩ : ∃ x : World, x = wn := ⟨_, rfl⟩
        (try simp only [Act.put, List.getElem_toArray, List.getElem_cons_succ, List.getElem_cons_zero, List.setIfInBounds_toArray, List.set_cons_zero, List.set_cons_succ])
        refine wpAnyL_ready (rs := [14, 20]) (by kernel_rfl) (by simp) (AllL.cons rfl (fun K hK => ?_) (AllL.cons rfl (fun K hK => ?_) AllL.nil))
        ·
          refine step_app _ elemIntP (by rfl) (.tmp 92) (.tmp 93) (by rfl) 0 (A := UA) (n := N) (c := uc) (usCs E) (by simp [Act.eval, Act.put]) OU.out _ (A2 := some ⟨gU, 0, none⟩) (m := 1) (c2 := 1) [.int .i64 0] (by simp [Act.eval, Act.put]) (LU.out.rd (by omega)) (by simp [Value.oneCell']) (by simp only [maxLen]; omega) (by omega) (Nat.zero_le _) ?_
          intro AU cU wn o8 k8 hA8
          have OK := hide (OK.out.kept k8 (fun q hq e => OU.out.ne OK.out (by decide) e hq))
          try (have LK := hide (LK.out.kept k8 (fun q hq e => OU.out.ne LK.out (by decide) e hq)))
          have OT := hide (OT.out.kept k8 (fun q hq e => OU.out.ne OT.out (by decide) e hq))
          try (have LT := hide (LT.out.kept k8 (fun q hq e => OU.out.ne LT.out (by decide) e hq)))
          have HU : Hid (∀ q, inB AU q → inB UA q ∨ w1.heap.size ≤ q) := hide (fun q hq => (hA8 q hq).imp id (fun h => by have := KK.out.size; omega))
          have KK := hide (KK.out.step k8 (fun q hq e => .inr (.inl e)))
          have OU := hide o8
          clear o8 k8 hA8 LU
          refine hK.out _ _ (HSg.out _ KK.out) (fun _ => ?_)
          clear hK K
          obtain ⟨wc, rfl⟩ : ∃ x : World, x = wn := ⟨_, rfl⟩
          (try simp only [Act.put, List.getElem_toArray, List.getElem_cons_succ, List.getElem_cons_zero, List.setIfInBounds_toArray, List.set_cons_zero, List.set_cons_succ])
          refine wpAnyL_ready (rs := [20]) (by kernel_rfl) (by simp) (AllL.cons rfl (fun K hK => ?_) AllL.nil)
          go_simp
          obtain ⟨gT, hg⟩ : ∃ g, g = wc.heap.size := ⟨_, rfl⟩
          obtain ⟨wn, hwn⟩ : ∃ x, x = wc.alloc (.cells #[.int .i64 0, .int .i64 0, .int .i64 0] 40) := ⟨_, rfl⟩
          have k0 : Keeps (fun _ => False) wc wn := by rw [hwn]; exact (Keeps.refl _ _).alloc _
          have OK := hide (OK.out.kept k0 (fun _ _ h => h))
          have OU := hide (OU.out.kept k0 (fun _ _ h => h))
          have OT := hide (OT.out.kept k0 (fun _ _ h => h))
          try (have LK := hide (LK.out.kept k0 (fun _ _ h => h)))
          try (have LU := hide (LU.out.kept k0 (fun _ _ h => h)))
          have KK := hide (KK.out.step0 k0)
          have LT : Hid (Own wn 0 40 3 (some ⟨gT, 0, none⟩) 1 1 [.int .i64 0, .int .i64 0, .int .i64 0]) := hide (by rw [hwn]; exact Own.new_at wc 0 _ #[.int .i64 0, .int .i64 0, .int .i64 0] 1 3 gT hg (Nat.zero_le _) (by simp [maxLen]) rfl)
          rw [← hwn, ← hg]
          refine hK.out _ _ (HSg.out _ KK.out) (fun _ => ?_)
          clear hK K hg hwn k0
          obtain ⟨wc, rfl⟩ : ∃ x : World, x = wn := ⟨_, rfl⟩
          (try simp only [Act.put, List.getElem_toArray, List.getElem_cons_succ, List.getElem_cons_zero, List.setIfInBounds_toArray, List.set_cons_zero, List.set_cons_succ])
          refine wpAnyL_ready (rs := [21]) (by kernel_rfl) (by simp) (AllL.cons rfl (fun K hK => ?_) AllL.nil)
          refine step_app _ elemHdP (by rfl) (.tmp 98) (.tmp 100) (by rfl) 0 (A := TA) (n := N) (c := tc) (pehCs E) (by simp [Act.eval, Act.put]) OT.out _ (A2 := some ⟨gT, 0, none⟩) (m := 1) (c2 := 1) [.int .i64 0, .int .i64 0, .int .i64 0] (by simp [Act.eval, Act.put]) (LT.out.rd (by omega)) (by simp [Value.oneCell']) (by simp only [maxLen]; omega) (by omega) (Nat.zero_le _) ?_
          intro AT cT wn o8 k8 hA8
          have OK := hide (OK.out.kept k8 (fun q hq e => OT.out.ne OK.out (by decide) e hq))
          try (have LK := hide (LK.out.kept k8 (fun q hq e => OT.out.ne LK.out (by decide) e hq)))
          have OU := hide (OU.out.kept k8 (fun q hq e => OT.out.ne OU.out (by decide) e hq))
          try (have LU := hide (LU.out.kept k8 (fun q hq e => OT.out.ne LU.out (by decide) e hq)))
          have HT : Hid (∀ q, inB AT q → inB TA q ∨ w1.heap.size ≤ q) := hide (fun q hq => (hA8 q hq).imp id (fun h => by have := KK.out.size; omega))
          have KK := hide (KK.out.step k8 (fun q hq e => .inr (.inr e)))
          have OT := hide o8
          clear o8 k8 hA8 LT
          refine hK.out _ _ (HSg.out _ KK.out) (fun _ => ?_)
          clear hK K
          obtain ⟨wc, rfl⟩ : ∃ x : World, x = wn := ⟨_, rfl⟩
          (try simp only [Act.put, List.getElem_toArray, List.getElem_cons_succ, List.getElem_cons_zero, List.setIfInBounds_toArray, List.set_cons_zero, List.set_cons_succ])
          have b8 := HR.out.blk.kept KK.out (fun e => HP.out e)
          have f2 := b8.frozen 2
          have f3 := b8.frozen 3
          have f4 := b8.frozen 4
          have d2 := b8.cell 2
          have d3 := b8.cell 3
          have d4 := b8.cell 4
          have hpl8 := b8.lt
          clear b8
          refine wpAnyL_any (i := 22) (v := ?_) rfl (by kernel_rfl) (by kernel_rfl) (by kernel_rfl) (fun _ _ _ h => h) (Or.inl ⟨by first | kernel_rfl | rfl, ?_⟩) ?_; rotate_left; focus (intro w hSw; (try dsimp only at hSw); go_simp; try (with_reducible rfl)); (try simp only [Act.put, List.getElem_toArray, List.getElem_cons_succ, List.getElem_cons_zero, List.setIfInBounds_toArray, List.set_cons_zero, List.set_cons_succ])
          refine wpAnyL_any (i := 23) (v := ?_) rfl (by kernel_rfl) (by kernel_rfl) (by kernel_rfl) (fun _ _ _ h => h) (Or.inl ⟨by first | kernel_rfl | rfl, ?_⟩) ?_; rotate_left; focus (intro w hSw; (try dsimp only at hSw); go_simp; try (with_reducible rfl)); (try simp only [Act.put, List.getElem_toArray, List.getElem_cons_succ, List.getElem_cons_zero, List.setIfInBounds_toArray, List.set_cons_zero, List.set_cons_succ])
          refine wpAnyL_ready (rs := [24]) (by kernel_rfl) (by simp) (AllL.last rfl rfl (fun K hK => ?_) AllL.nil)
          go_simp
          refine hK.out _ _ ?_
          clear hK K
          (try simp only [Act.put, List.getElem_toArray, List.getElem_cons_succ, List.getElem_cons_zero, List.setIfInBounds_toArray, List.set_cons_zero, List.set_cons_succ])
          refine wpAnyL_any (i := 25) (v := ?_) rfl (by kernel_rfl) (by kernel_rfl) (by kernel_rfl) (fun _ _ _ h => h) (Or.inl ⟨by first | kernel_rfl | rfl, ?_⟩) ?_; rotate_left; focus (intro w hSw; (try dsimp only at hSw); go_simp; try (with_reducible rfl)); (try simp only [Act.put, List.getElem_toArray, List.getElem_cons_succ, List.getElem_cons_zero, List.setIfInBounds_toArray, List.set_cons_zero, List.set_cons_succ])
          refine wpAnyL_any (i := 26) (v := ?_) rfl (by kernel_rfl) (by kernel_rfl) (by kernel_rfl) (fun _ _ _ h => h) (Or.inl ⟨by first | kernel_rfl | rfl, ?_⟩) ?_; rotate_left; focus (intro w hSw; (try dsimp only at hSw); go_simp; try (with_reducible rfl)); (try simp only [Act.put, List.getElem_toArray, List.getElem_cons_succ, List.getElem_cons_zero, List.setIfInBounds_toArray, List.set_cons_zero, List.set_cons_succ])
          refine wpAnyL_ready (rs := [27]) (by kernel_rfl) (by simp) (AllL.last rfl rfl (fun K hK => ?_) AllL.nil)
          go_simp
          refine hK.out _ _ ?_
          clear hK K
          (try simp only [Act.put, List.getElem_toArray, List.getElem_cons_succ, List.getElem_cons_zero, List.setIfInBounds_toArray, List.set_cons_zero, List.set_cons_succ])
          refine wpAnyL_any (i := 28) (v := ?_) rfl (by kernel_rfl) (by kernel_rfl) (by kernel_rfl) (fun _ _ _ h => h) (Or.inl ⟨by first | kernel_rfl | rfl, ?_⟩) ?_; rotate_left; focus (intro w hSw; (try dsimp only at hSw); go_simp; try (with_reducible rfl)); (try simp only [Act.put, List.getElem_toArray, List.getElem_cons_succ, List.getElem_cons_zero, List.setIfInBounds_toArray, List.set_cons_zero, List.set_cons_succ])
          refine wpAnyL_any (i := 29) (v := ?_) rfl (by kernel_rfl) (by kernel_rfl) (by kernel_rfl) (fun _ _ _ h => h) (Or.inl ⟨by first | kernel_rfl | rfl, ?_⟩) ?_; rotate_left; focus (intro w hSw; (try dsimp only at hSw); go_simp; try (with_reducible rfl)); (try simp only [Act.put, List.getElem_toArray, List.getElem_cons_succ, List.getElem_cons_zero, List.setIfInBounds_toArray, List.set_cons_zero, List.set_cons_succ])
          refine wpAnyL_ready (rs := [30]) (by kernel_rfl) (by simp) (AllL.last rfl rfl (fun K hK => ?_) AllL.nil)
          go_simp
          refine hK.out _ _ ?_
          clear hK K
          (try simp only [Act.put, List.getElem_toArray, List.getElem_cons_succ, List.getElem_cons_zero, List.setIfInBounds_toArray, List.set_cons_zero, List.set_cons_succ])
          refine wpAnyL_done (by kernel_rfl) ?_ _
          (try simp only [Act.put, List.getElem_toArray, List.getElem_cons_succ, List.getElem_cons_zero, List.setIfInBounds_toArray, List.set_cons_zero, List.set_cons_succ])
          refine show _ ∧ _ from ⟨⟨_, _, _, _, _, _, _, _, _, _, _, _, _, _, _, _, _, _, _, _, _, _, _, _, _, _, _, _, rfl⟩, ?_⟩
          exact HFin.out wc AK cK AU cU AT cT KK.out OK.out HK.out OU.out HU.out OT.out HT.out
          trace "LEAF4"
        ·
          go_simp
          obtain ⟨gT, hg⟩ : ∃ g, g = wc.heap.size := ⟨_, rfl⟩
          obtain ⟨wn, hwn⟩ : ∃ x, x = wc.alloc (.cells #[.int .i64 0, .int .i64 0, .int .i64 0] 40) := ⟨_, rfl⟩
          have k0 : Keeps (fun _ => False) wc wn := by rw [hwn]; exact (Keeps.refl _ _).alloc _
          have OK := hide (OK.out.kept k0 (fun _ _ h => h))
          have OU := hide (OU.out.kept k0 (fun _ _ h => h))
          have OT := hide (OT.out.kept k0 (fun _ _ h => h))
          try (have LK := hide (LK.out.kept k0 (fun _ _ h => h)))
          try (have LU := hide (LU.out.kept k0 (fun _ _ h => h)))
          have KK := hide (KK.out.step0 k0)
          have LT : Hid (Own wn 0 40 3 (some ⟨gT, 0, none⟩) 1 1 [.int .i64 0, .int .i64 0, .int .i64 0]) := hide (by rw [hwn]; exact Own.new_at wc 0 _ #[.int .i64 0, .int .i64 0, .int .i64 0] 1 3 gT hg (Nat.zero_le _) (by simp [maxLen]) rfl)
          rw [← hwn, ← hg]
          refine hK.out _ _ (HSg.out _ KK.out) (fun _ => ?_)
          clear hK K hg hwn k0
          obtain ⟨wc, rfl⟩ : ∃ x : World, x = wn := ⟨_, rfl⟩
          (try simp only [Act.put, List.getElem_toArray, List.getElem_cons_succ, List.getElem_cons_zero, List.setIfInBounds_toArray, List.set_cons_zero, List.set_cons_succ])
          refine wpAnyL_ready (rs := [14]) (by kernel_rfl) (by simp) (AllL.cons rfl (fun K hK => ?_) AllL.nil)
          refine step_app _ elemIntP (by rfl) (.tmp 92) (.tmp 93) (by rfl) 0 (A := UA) (n := N) (c := uc) (usCs E) (by simp [Act.eval, Act.put]) OU.out _ (A2 := some ⟨gU, 0, none⟩) (m := 1) (c2 := 1) [.int .i64 0] (by simp [Act.eval, Act.put]) (LU.out.rd (by omega)) (by simp [Value.oneCell']) (by simp only [maxLen]; omega) (by omega) (Nat.zero_le _) ?_
          intro AU cU wn o8 k8 hA8
          have OK := hide (OK.out.kept k8 (fun q hq e => OU.out.ne OK.out (by decide) e hq))
          try (have LK := hide (LK.out.kept k8 (fun q hq e => OU.out.ne LK.out (by decide) e hq)))
          have OT := hide (OT.out.kept k8 (fun q hq e => OU.out.ne OT.out (by decide) e hq))
          try (have LT := hide (LT.out.kept k8 (fun q hq e => OU.out.ne LT.out (by decide) e hq)))
          have HU : Hid (∀ q, inB AU q → inB UA q ∨ w1.heap.size ≤ q) := hide (fun q hq => (hA8 q hq).imp id (fun h => by have := KK.out.size; omega))
          have KK := hide (KK.out.step k8 (fun q hq e => .inr (.inl e)))
          have OU := hide o8
          clear o8 k8 hA8 LU
          refine hK.out _ _ (HSg.out _ KK.out) (fun _ => ?_)
          clear hK K
          obtain ⟨wc, rfl⟩ : ∃ x : World, x = wn := ⟨_, rfl⟩
          (try simp only [Act.put, List.getElem_toArray, List.getElem_cons_succ, List.getElem_cons_zero, List.setIfInBounds_toArray, List.set_cons_zero, List.set_cons_succ])
          refine wpAnyL_ready (rs := [21]) (by kernel_rfl) (by simp) (AllL.cons rfl (fun K hK => ?_) AllL.nil)
          refine step_app _ elemHdP (by rfl) (.tmp 98) (.tmp 100) (by rfl) 0 (A := TA) (n := N) (c := tc) (pehCs E) (by simp [Act.eval, Act.put]) OT.out _ (A2 := some ⟨gT, 0, none⟩) (m := 1) (c2 := 1) [.int .i64 0, .int .i64 0, .int .i64 0] (by simp [Act.eval, Act.put]) (LT.out.rd (by omega)) (by simp [Value.oneCell']) (by simp only [maxLen]; omega) (by omega) (Nat.zero_le _) ?_
          intro AT cT wn o8 k8 hA8
          have OK := hide (OK.out.kept k8 (fun q hq e => OT.out.ne OK.out (by decide) e hq))
          try (have LK := hide (LK.out.kept k8 (fun q hq e => OT.out.ne LK.out (by decide) e hq)))
          have OU := hide (OU.out.kept k8 (fun q hq e => OT.out.ne OU.out (by decide) e hq))
          try (have LU := hide (LU.out.kept k8 (fun q hq e => OT.out.ne LU.out (by decide) e hq)))
          have HT : Hid (∀ q, inB AT q → inB TA q ∨ w1.heap.size ≤ q) := hide (fun q hq => (hA8 q hq).imp id (fun h => by have := KK.out.size; omega))
          have KK := hide (KK.out.step k8 (fun q hq e => .inr (.inr e)))
          have OT := hide o8
          clear o8 k8 hA8 LT
          refine hK.out _ _ (HSg.out _ KK.out) (fun _ => ?_)
          clear hK K
          obtain ⟨wc, rfl⟩ : ∃ x : World, x = wn := ⟨_, rfl⟩
          (try simp only [Act.put, List.getElem_toArray, List.getElem_cons_succ, List.getElem_cons_zero, List.setIfInBounds_toArray, List.set_cons_zero, List.set_cons_succ])
          have b8 := HR.out.blk.kept KK.out (fun e => HP.out e)
          have f2 := b8.frozen 2
          have f3 := b8.frozen 3
          have f4 := b8.frozen 4
          have d2 := b8.cell 2
          have d3 := b8.cell 3
          have d4 := b8.cell 4
          have hpl8 := b8.lt
          clear b8
          refine wpAnyL_any (i := 22) (v := ?_) rfl (by kernel_rfl) (by kernel_rfl) (by kernel_rfl) (fun _ _ _ h => h) (Or.inl ⟨by first | kernel_rfl | rfl, ?_⟩) ?_; rotate_left; focus (intro w hSw; (try dsimp only at hSw); go_simp; try (with_reducible rfl)); (try simp only [Act.put, List.getElem_toArray, List.getElem_cons_succ, List.getElem_cons_zero, List.setIfInBounds_toArray, List.set_cons_zero, List.set_cons_succ])
          refine wpAnyL_any (i := 23) (v := ?_) rfl (by kernel_rfl) (by kernel_rfl) (by kernel_rfl) (fun _ _ _ h => h) (Or.inl ⟨by first | kernel_rfl | rfl, ?_⟩) ?_; rotate_left; focus (intro w hSw; (try dsimp only at hSw); go_simp; try (with_reducible rfl)); (try simp only [Act.put, List.getElem_toArray, List.getElem_cons_succ, List.getElem_cons_zero, List.setIfInBounds_toArray, List.set_cons_zero, List.set_cons_succ])
          refine wpAnyL_ready (rs := [24]) (by kernel_rfl) (by simp) (AllL.last rfl rfl (fun K hK => ?_) AllL.nil)
          go_simp
          refine hK.out _ _ ?_
          clear hK K
          (try simp only [Act.put, List.getElem_toArray, List.getElem_cons_succ, List.getElem_cons_zero, List.setIfInBounds_toArray, List.set_cons_zero, List.set_cons_succ])
          refine wpAnyL_any (i := 25) (v := ?_) rfl (by kernel_rfl) (by kernel_rfl) (by kernel_rfl) (fun _ _ _ h => h) (Or.inl ⟨by first | kernel_rfl | rfl, ?_⟩) ?_; rotate_left; focus (intro w hSw; (try dsimp only at hSw); go_simp; try (with_reducible rfl)); (try simp only [Act.put, List.getElem_toArray, List.getElem_cons_succ, List.getElem_cons_zero, List.setIfInBounds_toArray, List.set_cons_zero, List.set_cons_succ])
          refine wpAnyL_any (i := 26) (v := ?_) rfl (by kernel_rfl) (by kernel_rfl) (by kernel_rfl) (fun _ _ _ h => h) (Or.inl ⟨by first | kernel_rfl | rfl, ?_⟩) ?_; rotate_left; focus (intro w hSw; (try dsimp only at hSw); go_simp; try (with_reducible rfl)); (try simp only [Act.put, List.getElem_toArray, List.getElem_cons_succ, List.getElem_cons_zero, List.setIfInBounds_toArray, List.set_cons_zero, List.set_cons_succ])
          refine wpAnyL_ready (rs := [27]) (by kernel_rfl) (by simp) (AllL.last rfl rfl (fun K hK => ?_) AllL.nil)
          go_simp
          refine hK.out _ _ ?_
          clear hK K
          (try simp only [Act.put, List.getElem_toArray, List.getElem_cons_succ, List.getElem_cons_zero, List.setIfInBounds_toArray, List.set_cons_zero, List.set_cons_succ])
          refine wpAnyL_any (i := 28) (v := ?_) rfl (by kernel_rfl) (by kernel_rfl) (by kernel_rfl) (fun _ _ _ h => h) (Or.inl ⟨by first | kernel_rfl | rfl, ?_⟩) ?_; rotate_left; focus (intro w hSw; (try dsimp only at hSw); go_simp; try (with_reducible rfl)); (try simp only [Act.put, List.getElem_toArray, List.getElem_cons_succ, List.getElem_cons_zero, List.setIfInBounds_toArray, List.set_cons_zero, List.set_cons_succ])
          refine wpAnyL_any (i := 29) (v := ?_) rfl (by kernel_rfl) (by kernel_rfl) (by kernel_rfl) (fun _ _ _ h => h) (Or.inl ⟨by first | kernel_rfl | rfl, ?_⟩) ?_; rotate_left; focus (intro w hSw; (try dsimp only at hSw); go_simp; try (with_reducible rfl)); (try simp only [Act.put, List.getElem_toArray, List.getElem_cons_succ, List.getElem_cons_zero, List.setIfInBounds_toArray, List.set_cons_zero, List.set_cons_succ])
          refine wpAnyL_ready (rs := [30]) (by kernel_rfl) (by simp) (AllL.last rfl rfl (fun K hK => ?_) AllL.nil)
          go_simp
          refine hK.out _ _ ?_
          clear hK K
          (try simp only [Act.put, List.getElem_toArray, List.getElem_cons_succ, List.getElem_cons_zero, List.setIfInBounds_toArray, List.set_cons_zero, List.set_cons_succ])
          refine wpAnyL_done (by kernel_rfl) ?_ _
          (try simp only [Act.put, List.getElem_toArray, List.getElem_cons_succ, List.getElem_cons_zero, List.setIfInBounds_toArray, List.set_cons_zero, List.set_cons_succ])
          refine show _ ∧ _ from ⟨⟨_, _, _, _, _, _, _, _, _, _, _, _, _, _, _, _, _, _, _, _, _, _, _, _, _, _, _, _, rfl⟩, ?_⟩
          exact HFin.out wc AK cK AU cU AT cT KK.out OK.out HK.out OU.out HU.out OT.out HT.out
          trace "LEAF5"
      ·
        go_simp
        obtain ⟨gT, hg⟩ : ∃ g, g = wc.heap.size := ⟨_, rfl⟩
        obtain ⟨wn, hwn⟩ : ∃ x, x = wc.alloc (.cells #[.int .i64 0, .int .i64 0, .int .i64 0] 40) := ⟨_, rfl⟩
        have k0 : Keeps (fun _ => False) wc wn := by rw [hwn]; exact (Keeps.refl _ _).alloc _
        have OK := hide (OK.out.kept k0 (fun _ _ h => h))
        have OU := hide (OU.out.kept k0 (fun _ _ h => h))
        have OT := hide (OT.out.kept k0 (fun _ _ h => h))
        try (have LK := hide (LK.out.kept k0 (fun _ _ h => h)))
        try (have LU := hide (LU.out.kept k0 (fun _ _ h => h)))
        have KK := hide (KK.out.step0 k0)
        have LT : Hid (Own wn 0 40 3 (some ⟨gT, 0, none⟩) 1 1 [.int .i64 0, .int .i64 0, .int .i64 0]) := hide (by rw [hwn]; exact Own.new_at wc 0 _ #[.int .i64 0, .int .i64 0, .int .i64 0] 1 3 gT hg (Nat.zero_le _) (by simp [maxLen]) rfl)
        rw [← hwn, ← hg]
        refine hK.out _ _ (HSg.out _ KK.out) (fun _ => ?_)
        clear hK K hg hwn k0
        obtain ⟨wc, rfl⟩ : ∃ x : World, x = wn := ⟨_, rfl⟩
        (try simp only [Act.put, List.getElem_toArray, List.getElem_cons_succ, List.getElem_cons_zero, List.setIfInBounds_toArray, List.set_cons_zero, List.set_cons_succ])
        refine wpAnyL_ready (rs := [8]) (by kernel_rfl) (by simp) (AllL.cons rfl (fun K hK => ?_) AllL.nil)
        refine step_app _ elemStr (by rfl) (.tmp 86) (.tmp 87) (by rfl) 0 (A := KA) (n := N) (c := kc) (kyCs E) (by simp [Act.eval, Act.put]) OK.out _ (A2 := some ⟨gK, 0, none⟩) (m := 1) (c2 := 1) [.string ⟨#[]⟩] (by simp [Act.eval, Act.put]) (LK.out.rd (by omega)) (by simp [Value.oneCell']) (by simp only [maxLen]; omega) (by omega) (Nat.zero_le _) ?_
        intro AK cK wn o8 k8 hA8
        have OU := hide (OU.out.kept k8 (fun q hq e => OK.out.ne OU.out (by decide) e hq))
        try (have LU := hide (LU.out.kept k8 (fun q hq e => OK.out.ne LU.out (by decide) e hq)))
        have OT := hide (OT.out.kept k8 (fun q hq e => OK.out.ne OT.out (by decide) e hq))
        try (have LT := hide (LT.out.kept k8 (fun q hq e => OK.out.ne LT.out (by decide) e hq)))
        have HK : Hid (∀ q, inB AK q → inB KA q ∨ w1.heap.size ≤ q) := hide (fun q hq => (hA8 q hq).imp id (fun h => by have := KK.out.size; omega))
        have KK := hide (KK.out.step k8 (fun q hq e => .inl e))
        have OK := hide o8
        clear o8 k8 hA8 LK
        refine hK.out _ _ (HSg.out _ KK.out) (fun _ => ?_)
        clear hK K
        obtain ⟨wc, rfl⟩ : ∃ x : World, x = wn := ⟨_, rfl⟩
        (try simp only [Act.put, List.getElem_toArray, List.getElem_cons_succ, List.getElem_cons_zero, List.setIfInBounds_toArray, List.set_cons_zero, List.set_cons_succ])
        refine wpAnyL_ready (rs := [14]) (by kernel_rfl) (by simp) (AllL.cons rfl (fun K hK => ?_) AllL.nil)
        refine step_app _ elemIntP (by rfl) (.tmp 92) (.tmp 93) (by rfl) 0 (A := UA) (n := N) (c := uc) (usCs E) (by simp [Act.eval, Act.put]) OU.out _ (A2 := some ⟨gU, 0, none⟩) (m := 1) (c2 := 1) [.int .i64 0] (by simp [Act.eval, Act.put]) (LU.out.rd (by omega)) (by simp [Value.oneCell']) (by simp only [maxLen]; omega) (by omega) (Nat.zero_le _) ?_
        intro AU cU wn o8 k8 hA8
        have OK := hide (OK.out.kept k8 (fun q hq e => OU.out.ne OK.out (by decide) e hq))
        try (have LK := hide (LK.out.kept k8 (fun q hq e => OU.out.ne LK.out (by decide) e hq)))
        have OT := hide (OT.out.kept k8 (fun q hq e => OU.out.ne OT.out (by decide) e hq))
        try (have LT := hide (LT.out.kept k8 (fun q hq e => OU.out.ne LT.out (by decide) e hq)))
        have HU : Hid (∀ q, inB AU q → inB UA q ∨ w1.heap.size ≤ q) := hide (fun q hq => (hA8 q hq).imp id (fun h => by have := KK.out.size; omega))
        have KK := hide (KK.out.step k8 (fun q hq e => .inr (.inl e)))
        have OU := hide o8
        clear o8 k8 hA8 LU
        refine hK.out _ _ (HSg.out _ KK.out) (fun _ => ?_)
        clear hK K
        obtain ⟨wc, rfl⟩ : ∃ x : World, x = wn := ⟨_, rfl⟩
        (try simp only [Act.put, List.getElem_toArray, List.getElem_cons_succ, List.getElem_cons_zero, List.setIfInBounds_toArray, List.set_cons_zero, List.set_cons_succ])
        refine wpAnyL_ready (rs := [21]) (by kernel_rfl) (by simp) (AllL.cons rfl (fun K hK => ?_) AllL.nil)
        refine step_app _ elemHdP (by rfl) (.tmp 98) (.tmp 100) (by rfl) 0 (A := TA) (n := N) (c := tc) (pehCs E) (by simp [Act.eval, Act.put]) OT.out _ (A2 := some ⟨gT, 0, none⟩) (m := 1) (c2 := 1) [.int .i64 0, .int .i64 0, .int .i64 0] (by simp [Act.eval, Act.put]) (LT.out.rd (by omega)) (by simp [Value.oneCell']) (by simp only [maxLen]; omega) (by omega) (Nat.zero_le _) ?_
        intro AT cT wn o8 k8 hA8
        have OK := hide (OK.out.kept k8 (fun q hq e => OT.out.ne OK.out (by decide) e hq))
        try (have LK := hide (LK.out.kept k8 (fun q hq e => OT.out.ne LK.out (by decide) e hq)))
        have OU := hide (OU.out.kept k8 (fun q hq e => OT.out.ne OU.out (by decide) e hq))
        try (have LU := hide (LU.out.kept k8 (fun q hq e => OT.out.ne LU.out (by decide) e hq)))
        have HT : Hid (∀ q, inB AT q → inB TA q ∨ w1.heap.size ≤ q) := hide (fun q hq => (hA8 q hq).imp id (fun h => by have := KK.out.size; omega))
        have KK := hide (KK.out.step k8 (fun q hq e => .inr (.inr e)))
        have OT := hide o8
        clear o8 k8 hA8 LT
        refine hK.out _ _ (HSg.out _ KK.out) (fun _ => ?_)
        clear hK K
        obtain ⟨wc, rfl⟩ : ∃ x : World, x = wn := ⟨_, rfl⟩
        (try simp only [Act.put, List.getElem_toArray, List.getElem_cons_succ, List.getElem_cons_zero, List.setIfInBounds_toArray, List.set_cons_zero, List.set_cons_succ])
        have b8 := HR.out.blk.kept KK.out (fun e => HP.out e)
        have f2 := b8.frozen 2
        have f3 := b8.frozen 3
        have f4 := b8.frozen 4
        have d2 := b8.cell 2
        have d3 := b8.cell 3
        have d4 := b8.cell 4
        have hpl8 := b8.lt
        clear b8
        refine wpAnyL_any (i := 22) (v := ?_) rfl (by kernel_rfl) (by kernel_rfl) (by kernel_rfl) (fun _ _ _ h => h) (Or.inl ⟨by first | kernel_rfl | rfl, ?_⟩) ?_; rotate_left; focus (intro w hSw; (try dsimp only at hSw); go_simp; try (with_reducible rfl)); (try simp only [Act.put, List.getElem_toArray, List.getElem_cons_succ, List.getElem_cons_zero, List.setIfInBounds_toArray, List.set_cons_zero, List.set_cons_succ])
        refine wpAnyL_any (i := 23) (v := ?_) rfl (by kernel_rfl) (by kernel_rfl) (by kernel_rfl) (fun _ _ _ h => h) (Or.inl ⟨by first | kernel_rfl | rfl, ?_⟩) ?_; rotate_left; focus (intro w hSw; (try dsimp only at hSw); go_simp; try (with_reducible rfl)); (try simp only [Act.put, List.getElem_toArray, List.getElem_cons_succ, List.getElem_cons_zero, List.setIfInBounds_toArray, List.set_cons_zero, List.set_cons_succ])
        refine wpAnyL_ready (rs := [24]) (by kernel_rfl) (by simp) (AllL.last rfl rfl (fun K hK => ?_) AllL.nil)
        go_simp
        refine hK.out _ _ ?_
        clear hK K
        (try simp only [Act.put, List.getElem_toArray, List.getElem_cons_succ, List.getElem_cons_zero, List.setIfInBounds_toArray, List.set_cons_zero, List.set_cons_succ])
        refine wpAnyL_any (i := 25) (v := ?_) rfl (by kernel_rfl) (by kernel_rfl) (by kernel_rfl) (fun _ _ _ h => h) (Or.inl ⟨by first | kernel_rfl | rfl, ?_⟩) ?_; rotate_left; focus (intro w hSw; (try dsimp only at hSw); go_simp; try (with_reducible rfl)); (try simp only [Act.put, List.getElem_toArray, List.getElem_cons_succ, List.getElem_cons_zero, List.setIfInBounds_toArray, List.set_cons_zero, List.set_cons_succ])
        refine wpAnyL_any (i := 26) (v := ?_) rfl (by kernel_rfl) (by kernel_rfl) (by kernel_rfl) (fun _ _ _ h => h) (Or.inl ⟨by first | kernel_rfl | rfl, ?_⟩) ?_; rotate_left; focus (intro w hSw; (try dsimp only at hSw); go_simp; try (with_reducible rfl)); (try simp only [Act.put, List.getElem_toArray, List.getElem_cons_succ, List.getElem_cons_zero, List.setIfInBounds_toArray, List.set_cons_zero, List.set_cons_succ])
        refine wpAnyL_ready (rs := [27]) (by kernel_rfl) (by simp) (AllL.last rfl rfl (fun K hK => ?_) AllL.nil)
        go_simp
        refine hK.out _ _ ?_
        clear hK K
        (try simp only [Act.put, List.getElem_toArray, List.getElem_cons_succ, List.getElem_cons_zero, List.setIfInBounds_toArray, List.set_cons_zero, List.set_cons_succ])
        refine wpAnyL_any (i := 28) (v := ?_) rfl (by kernel_rfl) (by kernel_rfl) (by kernel_rfl) (fun _ _ _ h => h) (Or.inl ⟨by first | kernel_rfl | rfl, ?_⟩) ?_; rotate_left; focus (intro w hSw; (try dsimp only at hSw); go_simp; try (with_reducible rfl)); (try simp only [Act.put, List.getElem_toArray, List.getElem_cons_succ, List.getElem_cons_zero, List.setIfInBounds_toArray, List.set_cons_zero, List.set_cons_succ])
        refine wpAnyL_any (i := 29) (v := ?_) rfl (by kernel_rfl) (by kernel_rfl) (by kernel_rfl) (fun _ _ _ h => h) (Or.inl ⟨by first | kernel_rfl | rfl, ?_⟩) ?_; rotate_left; focus (intro w hSw; (try dsimp only at hSw); go_simp; try (with_reducible rfl)); (try simp only [Act.put, List.getElem_toArray, List.getElem_cons_succ, List.getElem_cons_zero, List.setIfInBounds_toArray, List.set_cons_zero, List.set_cons_succ])
        refine wpAnyL_ready (rs := [30]) (by kernel_rfl) (by simp) (AllL.last rfl rfl (fun K hK => ?_) AllL.nil)
        go_simp
        refine hK.out _ _ ?_
        clear hK K
        (try simp only [Act.put, List.getElem_toArray, List.getElem_cons_succ, List.getElem_cons_zero, List.setIfInBounds_toArray, List.set_cons_zero, List.set_cons_succ])
        refine wpAnyL_done (by kernel_rfl) ?_ _
        (try simp only [Act.put, List.getElem_toArray, List.getElem_cons_succ, List.getElem_cons_zero, List.setIfInBounds_toArray, List.set_cons_zero, List.set_cons_succ])
        refine show _ ∧ _ from ⟨⟨_, _, _, _, _, _, _, _, _, _, _, _, _, _, _, _, _, _, _, _, _, _, _, _, _, _, _, _, rfl⟩, ?_⟩
        exact HFin.out wc AK cK AU cU AT cT KK.out OK.out HK.out OU.out HU.out OT.out HT.out
        trace "LEAF6"
    ·
      go_simp
      obtain ⟨gT, hg⟩ : ∃ g, g = wc.heap.size := ⟨_, rfl⟩
      obtain ⟨wn, hwn⟩ : ∃ x, x = wc.alloc (.cells #[.int .i64 0, .int .i64 0, .int .i64 0] 40) := ⟨_, rfl⟩
      have k0 : Keeps (fun _ => False) wc wn := by rw [hwn]; exact (Keeps.refl _ _).alloc _
      have OK := hide (OK.out.kept k0 (fun _ _ h => h))
      have OU := hide (OU.out.kept k0 (fun _ _ h => h))
      have OT := hide (OT.out.kept k0 (fun _ _ h => h))
      try (have LK := hide (LK.out.kept k0 (fun _ _ h => h)))
      try (have LU := hide (LU.out.kept k0 (fun _ _ h => h)))
      have KK := hide (KK.out.step0 k0)
      have LT : Hid (Own wn 0 40 3 (some ⟨gT, 0, none⟩) 1 1 [.int .i64 0, .int .i64 0, .int .i64 0]) := hide (by rw [hwn]; exact Own.new_at wc 0 _ #[.int .i64 0, .int .i64 0, .int .i64 0] 1 3 gT hg (Nat.zero_le _) (by simp [maxLen]) rfl)
      rw [← hwn, ← hg]
      refine hK.out _ _ (HSg.out _ KK.out) (fun _ => ?_)
      clear hK K hg hwn k0
      obtain ⟨wc, rfl⟩ : ∃ x : World, x = wn := ⟨_, rfl⟩
      (try simp only [Act.put, List.getElem_toArray, List.getElem_cons_succ, List.getElem_cons_zero, List.setIfInBounds_toArray, List.set_cons_zero, List.set_cons_succ])
      refine wpAnyL_ready (rs := [8, 13]) (by kernel_rfl) (by simp) (AllL.cons rfl (fun K hK => ?_) (AllL.cons rfl (fun K hK => ?_) AllL.nil))
      ·
        refine step_app _ elemStr (by rfl) (.tmp 86) (.tmp 87) (by rfl) 0 (A := KA) (n := N) (c := kc) (kyCs E) (by simp [Act.eval, Act.put]) OK.out _ (A2 := some ⟨gK, 0, none⟩) (m := 1) (c2 := 1) [.string ⟨#[]⟩] (by simp [Act.eval, Act.put]) (LK.out.rd (by omega)) (by simp [Value.oneCell']) (by simp only [maxLen]; omega) (by omega) (Nat.zero_le _) ?_
        intro AK cK wn o8 k8 hA8
        have OU := hide (OU.out.kept k8 (fun q hq e => OK.out.ne OU.out (by decide) e hq))
        try (have LU := hide (LU.out.kept k8 (fun q hq e => OK.out.ne LU.out (by decide) e hq)))
        have OT := hide (OT.out.kept k8 (fun q hq e => OK.out.ne OT.out (by decide) e hq))
        try (have LT := hide (LT.out.kept k8 (fun q hq e => OK.out.ne LT.out (by decide) e hq)))
        have HK : Hid (∀ q, inB AK q → inB KA q ∨ w1.heap.size ≤ q) := hide (fun q hq => (hA8 q hq).imp id (fun h => by have := KK.out.size; omega))
        have KK := hide (KK.out.step k8 (fun q hq e => .inl e))
        have OK := hide o8
        clear o8 k8 hA8 LK
        refine hK.out _ _ (HSg.out _ KK.out) (fun _ => ?_)
        clear hK K
        obtain ⟨wc, rfl⟩ : ∃ x : World, x = wn := ⟨_, rfl⟩
        (try simp only [Act.put, List.getElem_toArray, List.getElem_cons_succ, List.getElem_cons_zero, List.setIfInBounds_toArray, List.set_cons_zero, List.set_cons_succ])
        refine wpAnyL_ready (rs := [13]) (by kernel_rfl) (by simp) (AllL.cons rfl (fun K hK => ?_) AllL.nil)
        go_simp
        obtain ⟨gU, hg⟩ : ∃ g, g = wc.heap.size := ⟨_, rfl⟩
        obtain ⟨wn, hwn⟩ : ∃ x, x = wc.alloc (.cells #[.int .i64 0] 3) := ⟨_, rfl⟩
        have k0 : Keeps (fun _ => False) wc wn := by rw [hwn]; exact (Keeps.refl _ _).alloc _
        have OK := hide (OK.out.kept k0 (fun _ _ h => h))
        have OU := hide (OU.out.kept k0 (fun _ _ h => h))
        have OT := hide (OT.out.kept k0 (fun _ _ h => h))
        try (have LK := hide (LK.out.kept k0 (fun _ _ h => h)))
        try (have LT := hide (LT.out.kept k0 (fun _ _ h => h)))
        have KK := hide (KK.out.step0 k0)
        have LU : Hid (Own wn 0 3 1 (some ⟨gU, 0, none⟩) 1 1 [.int .i64 0]) := hide (by rw [hwn]; exact Own.new_at wc 0 _ #[.int .i64 0] 1 1 gU hg (Nat.zero_le _) (by simp [maxLen]) rfl)
        rw [← hwn, ← hg]
        refine hK.out _ _ (HSg.out _ KK.out) (fun _ => ?_)
        clear hK K hg hwn k0
        obtain ⟨wc, rfl⟩ : ∃ x : World, x = wn := ⟨_, rfl⟩
        (try simp only [Act.put, List.getElem_toArray, List.getElem_cons_succ, List.getElem_cons_zero, List.setIfInBounds_toArray, List.set_cons_zero, List.set_cons_succ])
        refine wpAnyL_ready (rs := [14]) (by kernel_rfl) (by simp) (AllL.cons rfl (fun K hK => ?_) AllL.nil)
        refine step_app _ elemIntP (by rfl) (.tmp 92) (.tmp 93) (by rfl) 0 (A := UA) (n := N) (c := uc) (usCs E) (by simp [Act.eval, Act.put]) OU.out _ (A2 := some ⟨gU, 0, none⟩) (m := 1) (c2 := 1) [.int .i64 0] (by simp [Act.eval, Act.put]) (LU.out.rd (by omega)) (by simp [Value.oneCell']) (by simp only [maxLen]; omega) (by omega) (Nat.zero_le _) ?_
        intro AU cU wn o8 k8 hA8
        have OK := hide (OK.out.kept k8 (fun q hq e => OU.out.ne OK.out (by decide) e hq))
        try (have LK := hide (LK.out.kept k8 (fun q hq e => OU.out.ne LK.out (by decide) e hq)))
        have OT := hide (OT.out.kept k8 (fun q hq e => OU.out.ne OT.out (by decide) e hq))
        try (have LT := hide (LT.out.kept k8 (fun q hq e => OU.out.ne LT.out (by decide) e hq)))
        have HU : Hid (∀ q, inB AU q → inB UA q ∨ w1.heap.size ≤ q) := hide (fun q hq => (hA8 q hq).imp id (fun h => by have := KK.out.size; omega))
        have KK := hide (KK.out.step k8 (fun q hq e => .inr (.inl e)))
        have OU := hide o8
        clear o8 k8 hA8 LU
        refine hK.out _ _ (HSg.out _ KK.out) (fun _ => ?_)
        clear hK K
        obtain ⟨wc, rfl⟩ : ∃ x : World, x = wn := ⟨_, rfl⟩
        (try simp only [Act.put, List.getElem_toArray, List.getElem_cons_succ, List.getElem_cons_zero, List.setIfInBounds_toArray, List.set_cons_zero, List.set_cons_succ])
        refine wpAnyL_ready (rs := [21]) (by kernel_rfl) (by simp) (AllL.cons rfl (fun K hK => ?_) AllL.nil)
        refine step_app _ elemHdP (by rfl) (.tmp 98) (.tmp 100) (by rfl) 0 (A := TA) (n := N) (c := tc) (pehCs E) (by simp [Act.eval, Act.put]) OT.out _ (A2 := some ⟨gT, 0, none⟩) (m := 1) (c2 := 1) [.int .i64 0, .int .i64 0, .int .i64 0] (by simp [Act.eval, Act.put]) (LT.out.rd (by omega)) (by simp [Value.oneCell']) (by simp only [maxLen]; omega) (by omega) (Nat.zero_le _) ?_
        intro AT cT wn o8 k8 hA8
        have OK := hide (OK.out.kept k8 (fun q hq e => OT.out.ne OK.out (by decide) e hq))
        try (have LK := hide (LK.out.kept k8 (fun q hq e => OT.out.ne LK.out (by decide) e hq)))
        have OU := hide (OU.out.kept k8 (fun q hq e => OT.out.ne OU.out (by decide) e hq))
        try (have LU := hide (LU.out.kept k8 (fun q hq e => OT.out.ne LU.out (by decide) e hq)))
        have HT : Hid (∀ q, inB AT q → inB TA q ∨ w1.heap.size ≤ q) := hide (fun q hq => (hA8 q hq).imp id (fun h => by have := KK.out.size; omega))
        have KK := hide (KK.out.step k8 (fun q hq e => .inr (.inr e)))
        have OT := hide o8
        clear o8 k8 hA8 LT
        refine hK.out _ _ (HSg.out _ KK.out) (fun _ => ?_)
        clear hK K
        obtain ⟨wc, rfl⟩ : ∃ x : World, x = wn := ⟨_, rfl⟩
        (try simp only [Act.put, List.getElem_toArray, List.getElem_cons_succ, List.getElem_cons_zero, List.setIfInBounds_toArray, List.set_cons_zero, List.set_cons_succ])
        have b8 := HR.out.blk.kept KK.out (fun e => HP.out e)
        have f2 := b8.frozen 2
        have f3 := b8.frozen 3
        have f4 := b8.frozen 4
        have d2 := b8.cell 2
        have d3 := b8.cell 3
        have d4 := b8.cell 4
        have hpl8 := b8.lt
        clear b8
        refine wpAnyL_any (i := 22) (v := ?_) rfl (by kernel_rfl) (by kernel_rfl) (by kernel_rfl) (fun _ _ _ h => h) (Or.inl ⟨by first | kernel_rfl | rfl, ?_⟩) ?_; rotate_left; focus (intro w hSw; (try dsimp only at hSw); go_simp; try (with_reducible rfl)); (try simp only [Act.put, List.getElem_toArray, List.getElem_cons_succ, List.getElem_cons_zero, List.setIfInBounds_toArray, List.set_cons_zero, List.set_cons_succ])
        refine wpAnyL_any (i := 23) (v := ?_) rfl (by kernel_rfl) (by kernel_rfl) (by kernel_rfl) (fun _ _ _ h => h) (Or.inl ⟨by first | kernel_rfl | rfl, ?_⟩) ?_; rotate_left; focus (intro w hSw; (try dsimp only at hSw); go_simp; try (with_reducible rfl)); (try simp only [Act.put, List.getElem_toArray, List.getElem_cons_succ, List.getElem_cons_zero, List.setIfInBounds_toArray, List.set_cons_zero, List.set_cons_succ])
        refine wpAnyL_ready (rs := [24]) (by kernel_rfl) (by simp) (AllL.last rfl rfl (fun K hK => ?_) AllL.nil)
        go_simp
        refine hK.out _ _ ?_
        clear hK K
        (try simp only [Act.put, List.getElem_toArray, List.getElem_cons_succ, List.getElem_cons_zero, List.setIfInBounds_toArray, List.set_cons_zero, List.set_cons_succ])
        refine wpAnyL_any (i := 25) (v := ?_) rfl (by kernel_rfl) (by kernel_rfl) (by kernel_rfl) (fun _ _ _ h => h) (Or.inl ⟨by first | kernel_rfl | rfl, ?_⟩) ?_; rotate_left; focus (intro w hSw; (try dsimp only at hSw); go_simp; try (with_reducible rfl)); (try simp only [Act.put, List.getElem_toArray, List.getElem_cons_succ, List.getElem_cons_zero, List.setIfInBounds_toArray, List.set_cons_zero, List.set_cons_succ])
        refine wpAnyL_any (i := 26) (v := ?_) rfl (by kernel_rfl) (by kernel_rfl) (by kernel_rfl) (fun _ _ _ h => h) (Or.inl ⟨by first | kernel_rfl | rfl, ?_⟩) ?_; rotate_left; focus (intro w hSw; (try dsimp only at hSw); go_simp; try (with_reducible rfl)); (try simp only [Act.put, List.getElem_toArray, List.getElem_cons_succ, List.getElem_cons_zero, List.setIfInBounds_toArray, List.set_cons_zero, List.set_cons_succ])
        refine wpAnyL_ready (rs := [27]) (by kernel_rfl) (by simp) (AllL.last rfl rfl (fun K hK => ?_) AllL.nil)
        go_simp
        refine hK.out _ _ ?_
        clear hK K
        (try simp only [Act.put, List.getElem_toArray, List.getElem_cons_succ, List.getElem_cons_zero, List.setIfInBounds_toArray, List.set_cons_zero, List.set_cons_succ])
        refine wpAnyL_any (i := 28) (v := ?_) rfl (by kernel_rfl) (by kernel_rfl) (by kernel_rfl) (fun _ _ _ h => h) (Or.inl ⟨by first | kernel_rfl | rfl, ?_⟩) ?_; rotate_left; focus (intro w hSw; (try dsimp only at hSw); go_simp; try (with_reducible rfl)); (try simp only [Act.put, List.getElem_toArray, List.getElem_cons_succ, List.getElem_cons_zero, List.setIfInBounds_toArray, List.set_cons_zero, List.set_cons_succ])
        refine wpAnyL_any (i := 29) (v := ?_) rfl (by kernel_rfl) (by kernel_rfl) (by kernel_rfl) (fun _ _ _ h => h) (Or.inl ⟨by first | kernel_rfl | rfl, ?_⟩) ?_; rotate_left; focus (intro w hSw; (try dsimp only at hSw); go_simp; try (with_reducible rfl)); (try simp only [Act.put, List.getElem_toArray, List.getElem_cons_succ, List.getElem_cons_zero, List.setIfInBounds_toArray, List.set_cons_zero, List.set_cons_succ])
        refine wpAnyL_ready (rs := [30]) (by kernel_rfl) (by simp) (AllL.last rfl rfl (fun K hK => ?_) AllL.nil)
        go_simp
        refine hK.out _ _ ?_
        clear hK K
        (try simp only [Act.put, List.getElem_toArray, List.getElem_cons_succ, List.getElem_cons_zero, List.setIfInBounds_toArray, List.set_cons_zero, List.set_cons_succ])
        refine wpAnyL_done (by kernel_rfl) ?_ _
        (try simp only [Act.put, List.getElem_toArray, List.getElem_cons_succ, List.getElem_cons_zero, List.setIfInBounds_toArray, List.set_cons_zero, List.set_cons_succ])
        refine show _ ∧ _ from ⟨⟨_, _, _, _, _, _, _, _, _, _, _, _, _, _, _, _, _, _, _, _, _, _, _, _, _, _, _, _, rfl⟩, ?_⟩
        exact HFin.out wc AK cK AU cU AT cT KK.out OK.out HK.out OU.out HU.out OT.out HT.out
        trace "LEAF7"
      ·
        go_simp
        obtain ⟨gU, hg⟩ : ∃ g, g = wc.heap.size := ⟨_, rfl⟩
        obtain ⟨wn, hwn⟩ : ∃ x, x = wc.alloc (.cells #[.int .i64 0] 3) := ⟨_, rfl⟩
        have k0 : Keeps (fun _ => False) wc wn := by rw [hwn]; exact (Keeps.refl _ _).alloc _
        have OK := hide (OK.out.kept k0 (fun _ _ h => h))
        have OU := hide (OU.out.kept k0 (fun _ _ h => h))
        have OT := hide (OT.out.kept k0 (fun _ _ h => h))
        try (have LK := hide (LK.out.kept k0 (fun _ _ h => h)))
        try (have LT := hide (LT.out.kept k0 (fun _ _ h => h)))
        have KK := hide (KK.out.step0 k0)
        have LU : Hid (Own wn 0 3 1 (some ⟨gU, 0, none⟩) 1 1 [.int .i64 0]) := hide (by rw [hwn]; exact Own.new_at wc 0 _ #[.int .i64 0] 1 1 gU hg (Nat.zero_le _) (by simp [maxLen]) rfl)
        rw [← hwn, ← hg]
        refine hK.out _ _ (HSg.out _ KK.out) (fun _ => ?_)
        clear hK K hg hwn k0
        obtain ⟨wc, rfl⟩ : ∃ x : World, x = wn := ⟨_, rfl⟩
        (try simp only [Act.put, List.getElem_toArray, List.getElem_cons_succ, List.getElem_cons_zero, List.setIfInBounds_toArray, List.set_cons_zero, List.set_cons_succ])
        refine wpAnyL_ready (rs := [8]) (by kernel_rfl) (by simp) (AllL.cons rfl (fun K hK => ?_) AllL.nil)
        refine step_app _ elemStr (by rfl) (.tmp 86) (.tmp 87) (by rfl) 0 (A := KA) (n := N) (c := kc) (kyCs E) (by simp [Act.eval, Act.put]) OK.out _ (A2 := some ⟨gK, 0, none⟩) (m := 1) (c2 := 1) [.string ⟨#[]⟩] (by simp [Act.eval, Act.put]) (LK.out.rd (by omega)) (by simp [Value.oneCell']) (by simp only [maxLen]; omega) (by omega) (Nat.zero_le _) ?_
        intro AK cK wn o8 k8 hA8
        have OU := hide (OU.out.kept k8 (fun q hq e => OK.out.ne OU.out (by decide) e hq))
        try (have LU := hide (LU.out.kept k8 (fun q hq e => OK.out.ne LU.out (by decide) e hq)))
        have OT := hide (OT.out.kept k8 (fun q hq e => OK.out.ne OT.out (by decide) e hq))
        try (have LT := hide (LT.out.kept k8 (fun q hq e => OK.out.ne LT.out (by decide) e hq)))
        have HK : Hid (∀ q, inB AK q → inB KA q ∨ w1.heap.size ≤ q) := hide (fun q hq => (hA8 q hq).imp id (fun h => by have := KK.out.size; omega))
        have KK := hide (KK.out.step k8 (fun q hq e => .inl e))
        have OK := hide o8
        clear o8 k8 hA8 LK
        refine hK.out _ _ (HSg.out _ KK.out) (fun _ => ?_)
        clear hK K
        obtain ⟨wc, rfl⟩ : ∃ x : World, x = wn := ⟨_, rfl⟩
        (try simp only [Act.put, List.getElem_toArray, List.getElem_cons_succ, List.getElem_cons_zero, List.setIfInBounds_toArray, List.set_cons_zero, List.set_cons_succ])
        refine wpAnyL_ready (rs := [14]) (by kernel_rfl) (by simp) (AllL.cons rfl (fun K hK => ?_) AllL.nil)
        refine step_app _ elemIntP (by rfl) (.tmp 92) (.tmp 93) (by rfl) 0 (A := UA) (n := N) (c := uc) (usCs E) (by simp [Act.eval, Act.put]) OU.out _ (A2 := some ⟨gU, 0, none⟩) (m := 1) (c2 := 1) [.int .i64 0] (by simp [Act.eval, Act.put]) (LU.out.rd (by omega)) (by simp [Value.oneCell']) (by simp only [maxLen]; omega) (by omega) (Nat.zero_le _) ?_
        intro AU cU wn o8 k8 hA8
        have OK := hide (OK.out.kept k8 (fun q hq e => OU.out.ne OK.out (by decide) e hq))
        try (have LK := hide (LK.out.kept k8 (fun q hq e => OU.out.ne LK.out (by decide) e hq)))
        have OT := hide (OT.out.kept k8 (fun q hq e => OU.out.ne OT.out (by decide) e hq))
        try (have LT := hide (LT.out.kept k8 (fun q hq e => OU.out.ne LT.out (by decide) e hq)))
        have HU : Hid (∀ q, inB AU q → inB UA q ∨ w1.heap.size ≤ q) := hide (fun q hq => (hA8 q hq).imp id (fun h => by have := KK.out.size; omega))
        have KK := hide (KK.out.step k8 (fun q hq e => .inr (.inl e)))
        have OU := hide o8
        clear o8 k8 hA8 LU
        refine hK.out _ _ (HSg.out _ KK.out) (fun _ => ?_)
        clear hK K
        obtain ⟨wc, rfl⟩ : ∃ x : World, x = wn := ⟨_, rfl⟩
        (try simp only [Act.put, List.getElem_toArray, List.getElem_cons_succ, List.getElem_cons_zero, List.setIfInBounds_toArray, List.set_cons_zero, List.set_cons_succ])
        refine wpAnyL_ready (rs := [21]) (by kernel_rfl) (by simp) (AllL.cons rfl (fun K hK => ?_) AllL.nil)
        refine step_app _ elemHdP (by rfl) (.tmp 98) (.tmp 100) (by rfl) 0 (A := TA) (n := N) (c := tc) (pehCs E) (by simp [Act.eval, Act.put]) OT.out _ (A2 := some ⟨gT, 0, none⟩) (m := 1) (c2 := 1) [.int .i64 0, .int .i64 0, .int .i64 0] (by simp [Act.eval, Act.put]) (LT.out.rd (by omega)) (by simp [Value.oneCell']) (by simp only [maxLen]; omega) (by omega) (Nat.zero_le _) ?_
        intro AT cT wn o8 k8 hA8
        have OK := hide (OK.out.kept k8 (fun q hq e => OT.out.ne OK.out (by decide) e hq))
        try (have LK := hide (LK.out.kept k8 (fun q hq e => OT.out.ne LK.out (by decide) e hq)))
        have OU := hide (OU.out.kept k8 (fun q hq e => OT.out.ne OU.out (by decide) e hq))
        try (have LU := hide (LU.out.kept k8 (fun q hq e => OT.out.ne LU.out (by decide) e hq)))
        have HT : Hid (∀ q, inB AT q → inB TA q ∨ w1.heap.size ≤ q) := hide (fun q hq => (hA8 q hq).imp id (fun h => by have := KK.out.size; omega))
        have KK := hide (KK.out.step k8 (fun q hq e => .inr (.inr e)))
        have OT := hide o8
        clear o8 k8 hA8 LT
        refine hK.out _ _ (HSg.out _ KK.out) (fun _ => ?_)
        clear hK K
        obtain ⟨wc, rfl⟩ : ∃ x : World, x = wn := ⟨_, rfl⟩
        (try simp only [Act.put, List.getElem_toArray, List.getElem_cons_succ, List.getElem_cons_zero, List.setIfInBounds_toArray, List.set_cons_zero, List.set_cons_succ])
        have b8 := HR.out.blk.kept KK.out (fun e => HP.out e)
        have f2 := b8.frozen 2
        have f3 := b8.frozen 3
        have f4 := b8.frozen 4
        have d2 := b8.cell 2
        have d3 := b8.cell 3
        have d4 := b8.cell 4
        have hpl8 := b8.lt
        clear b8
        refine wpAnyL_any (i := 22) (v := ?_) rfl (by kernel_rfl) (by kernel_rfl) (by kernel_rfl) (fun _ _ _ h => h) (Or.inl ⟨by first | kernel_rfl | rfl, ?_⟩) ?_; rotate_left; focus (intro w hSw; (try dsimp only at hSw); go_simp; try (with_reducible rfl)); (try simp only [Act.put, List.getElem_toArray, List.getElem_cons_succ, List.getElem_cons_zero, List.setIfInBounds_toArray, List.set_cons_zero, List.set_cons_succ])
        refine wpAnyL_any (i := 23) (v := ?_) rfl (by kernel_rfl) (by kernel_rfl) (by kernel_rfl) (fun _ _ _ h => h) (Or.inl ⟨by first | kernel_rfl | rfl, ?_⟩) ?_; rotate_left; focus (intro w hSw; (try dsimp only at hSw); go_simp; try (with_reducible rfl)); (try simp only [Act.put, List.getElem_toArray, List.getElem_cons_succ, List.getElem_cons_zero, List.setIfInBounds_toArray, List.set_cons_zero, List.set_cons_succ])
        refine wpAnyL_ready (rs := [24]) (by kernel_rfl) (by simp) (AllL.last rfl rfl (fun K hK => ?_) AllL.nil)
        go_simp
        refine hK.out _ _ ?_
        clear hK K
        (try simp only [Act.put, List.getElem_toArray, List.getElem_cons_succ, List.getElem_cons_zero, List.setIfInBounds_toArray, List.set_cons_zero, List.set_cons_succ])
        refine wpAnyL_any (i := 25) (v := ?_) rfl (by kernel_rfl) (by kernel_rfl) (by kernel_rfl) (fun _ _ _ h => h) (Or.inl ⟨by first | kernel_rfl | rfl, ?_⟩) ?_; rotate_left; focus (intro w hSw; (try dsimp only at hSw); go_simp; try (with_reducible rfl)); (try simp only [Act.put, List.getElem_toArray, List.getElem_cons_succ, List.getElem_cons_zero, List.setIfInBounds_toArray, List.set_cons_zero, List.set_cons_succ])
        refine wpAnyL_any (i := 26) (v := ?_) rfl (by kernel_rfl) (by kernel_rfl) (by kernel_rfl) (fun _ _ _ h => h) (Or.inl ⟨by first | kernel_rfl | rfl, ?_⟩) ?_; rotate_left; focus (intro w hSw; (try dsimp only at hSw); go_simp; try (with_reducible rfl)); (try simp only [Act.put, List.getElem_toArray, List.getElem_cons_succ, List.getElem_cons_zero, List.setIfInBounds_toArray, List.set_cons_zero, List.set_cons_succ])
        refine wpAnyL_ready (rs := [27]) (by kernel_rfl) (by simp) (AllL.last rfl rfl (fun K hK => ?_) AllL.nil)
        go_simp
        refine hK.out _ _ ?_
        clear hK K
        (try simp only [Act.put, List.getElem_toArray, List.getElem_cons_succ, List.getElem_cons_zero, List.setIfInBounds_toArray, List.set_cons_zero, List.set_cons_succ])
        refine wpAnyL_any (i := 28) (v := ?_) rfl (by kernel_rfl) (by kernel_rfl) (by kernel_rfl) (fun _ _ _ h => h) (Or.inl ⟨by first | kernel_rfl | rfl, ?_⟩) ?_; rotate_left; focus (intro w hSw; (try dsimp only at hSw); go_simp; try (with_reducible rfl)); (try simp only [Act.put, List.getElem_toArray, List.getElem_cons_succ, List.getElem_cons_zero, List.setIfInBounds_toArray, List.set_cons_zero, List.set_cons_succ])
        refine wpAnyL_any (i := 29) (v := ?_) rfl (by kernel_rfl) (by kernel_rfl) (by kernel_rfl) (fun _ _ _ h => h) (Or.inl ⟨by first | kernel_rfl | rfl, ?_⟩) ?_; rotate_left; focus (intro w hSw; (try dsimp only at hSw); go_simp; try (with_reducible rfl)); (try simp only [Act.put, List.getElem_toArray, List.getElem_cons_succ, List.getElem_cons_zero, List.setIfInBounds_toArray, List.set_cons_zero, List.set_cons_succ])
        refine wpAnyL_ready (rs := [30]) (by kernel_rfl) (by simp) (AllL.last rfl rfl (fun K hK => ?_) AllL.nil)
        go_simp
        refine hK.out _ _ ?_
        clear hK K
        (try simp only [Act.put, List.getElem_toArray, List.getElem_cons_succ, List.getElem_cons_zero, List.setIfInBounds_toArray, List.set_cons_zero, List.set_cons_succ])
        refine wpAnyL_done (by kernel_rfl) ?_ _
        (try simp only [Act.put, List.getElem_toArray, List.getElem_cons_succ, List.getElem_cons_zero, List.setIfInBounds_toArray, List.set_cons_zero, List.set_cons_succ])
        refine show _ ∧ _ from ⟨⟨_, _, _, _, _, _, _, _, _, _, _, _, _, _, _, _, _, _, _, _, _, _, _, _, _, _, _, _, rfl⟩, ?_⟩
        exact HFin.out wc AK cK AU cU AT cT KK.out OK.out HK.out OU.out HU.out OT.out HT.out
        trace "LEAF8"
  ·
    go_simp
    obtain ⟨gU, hg⟩ : ∃ g, g = wc.heap.size := ⟨_, rfl⟩
    obtain ⟨wn, hwn⟩ : ∃ x, x = wc.alloc (.cells #[.int .i64 0] 3) := ⟨_, rfl⟩
    have k0 : Keeps (fun _ => False) wc wn := by rw [hwn]; exact (Keeps.refl _ _).alloc _
    have OK := hide (OK.out.kept k0 (fun _ _ h => h))
    have OU := hide (OU.out.kept k0 (fun _ _ h => h))
    have OT := hide (OT.out.kept k0 (fun _ _ h => h))
    try (have LK := hide (LK.out.kept k0 (fun _ _ h => h)))
    try (have LT := hide (LT.out.kept k0 (fun _ _ h => h)))
    have KK := hide (KK.out.step0 k0)
    have LU : Hid (Own wn 0 3 1 (some ⟨gU, 0, none⟩) 1 1 [.int .i64 0]) := hide (by rw [hwn]; exact Own.new_at wc 0 _ #[.int .i64 0] 1 1 gU hg (Nat.zero_le _) (by simp [maxLen]) rfl)
    rw [← hwn, ← hg]
    refine hK.out _ _ (HSg.out _ KK.out) (fun _ => ?_)
    clear hK K hg hwn k0
    obtain ⟨wc, rfl⟩ : ∃ x : World, x = wn := ⟨_, rfl⟩
    (try simp only [Act.put, List.getElem_toArray, List.getElem_cons_succ, List.getElem_cons_zero, List.setIfInBounds_toArray, List.set_cons_zero, List.set_cons_succ])
    refine wpAnyL_ready (rs := [7, 20]) (by kernel_rfl) (by simp) (AllL.cons rfl (fun K hK => ?_) (AllL.cons rfl (fun K hK => ?_) AllL.nil))
    ·
      go_simp
      obtain ⟨gK, hg⟩ : ∃ g, g = wc.heap.size := ⟨_, rfl⟩
      obtain ⟨wn, hwn⟩ : ∃ x, x = wc.alloc (.cells #[.string ⟨#[]⟩] 9) := ⟨_, rfl⟩
      have k0 : Keeps (fun _ => False) wc wn := by rw [hwn]; exact (Keeps.refl _ _).alloc _
      have OK := hide (OK.out.kept k0 (fun _ _ h => h))
      have OU := hide (OU.out.kept k0 (fun _ _ h => h))
      have OT := hide (OT.out.kept k0 (fun _ _ h => h))
      try (have LU := hide (LU.out.kept k0 (fun _ _ h => h)))
      try (have LT := hide (LT.out.kept k0 (fun _ _ h => h)))
      have KK := hide (KK.out.step0 k0)
      have LK : Hid (Own wn 0 9 1 (some ⟨gK, 0, none⟩) 1 1 [.string ⟨#[]⟩]) := hide (by rw [hwn]; exact Own.new_at wc 0 _ #[.string ⟨#[]⟩] 1 1 gK hg (Nat.zero_le _) (by simp [maxLen]) rfl)
      rw [← hwn, ← hg]
      refine hK.out _ _ (HSg.out _ KK.out) (fun _ => ?_)
      clear hK K hg hwn k0
      obtain ⟨wc, rfl⟩ : ∃ x : World, x = wn := ⟨_, rfl⟩
      (try simp only [Act.put, List.getElem_toArray, List.getElem_cons_succ, List.getElem_cons_zero, List.setIfInBounds_toArray, List.set_cons_zero, List.set_cons_succ])
      refine wpAnyL_ready (rs := [8, 20]) (by kernel_rfl) (by simp) (AllL.cons rfl (fun K hK => ?_) (AllL.cons rfl (fun K hK => ?_) AllL.nil))
      ·
        refine step_app _ elemStr (by rfl) (.tmp 86) (.tmp 87) (by rfl) 0 (A := KA) (n := N) (c := kc) (kyCs E) (by simp [Act.eval, Act.put]) OK.out _ (A2 := some ⟨gK, 0, none⟩) (m := 1) (c2 := 1) [.string ⟨#[]⟩] (by simp [Act.eval, Act.put]) (LK.out.rd (by omega)) (by simp [Value.oneCell']) (by simp only [maxLen]; omega) (by omega) (Nat.zero_le _) ?_
        intro AK cK wn o8 k8 hA8
        have OU := hide (OU.out.kept k8 (fun q hq e => OK.out.ne OU.out (by decide) e hq))
        try (have LU := hide (LU.out.kept k8 (fun q hq e => OK.out.ne LU.out (by decide) e hq)))
        have OT := hide (OT.out.kept k8 (fun q hq e => OK.out.ne OT.out (by decide) e hq))
        try (have LT := hide (LT.out.kept k8 (fun q hq e => OK.out.ne LT.out (by decide) e hq)))
        have HK : Hid (∀ q, inB AK q → inB KA q ∨ w1.heap.size ≤ q) := hide (fun q hq => (hA8 q hq).imp id (fun h => by have := KK.out.size; omega))
        have KK := hide (KK.out.step k8 (fun q hq e => .inl e))
        have OK := hide o8
        clear o8 k8 hA8 LK
        refine hK.out _ _ (HSg.out _ KK.out) (fun _ => ?_)
        clear hK K
        obtain ⟨wc, rfl⟩ : ∃ x : World, x = wn := ⟨_, rfl⟩
        (try simp only [Act.put, List.getElem_toArray, List.getElem_cons_succ, List.getElem_cons_zero, List.setIfInBounds_toArray, List.set_cons_zero, List.set_cons_succ])
        refine wpAnyL_ready (rs := [14, 20]) (by kernel_rfl) (by simp) (AllL.cons rfl (fun K hK => ?_) (AllL.cons rfl (fun K hK => ?_) AllL.nil))
        ·
          refine step_app _ elemIntP (by rfl) (.tmp 92) (.tmp 93) (by rfl) 0 (A := UA) (n := N) (c := uc) (usCs E) (by simp [Act.eval, Act.put]) OU.out _ (A2 := some ⟨gU, 0, none⟩) (m := 1) (c2 := 1) [.int .i64 0] (by simp [Act.eval, Act.put]) (LU.out.rd (by omega)) (by simp [Value.oneCell']) (by simp only [maxLen]; omega) (by omega) (Nat.zero_le _) ?_
          intro AU cU wn o8 k8 hA8
          have OK := hide (OK.out.kept k8 (fun q hq e => OU.out.ne OK.out (by decide) e hq))
          try (have LK := hide (LK.out.kept k8 (fun q hq e => OU.out.ne LK.out (by decide) e hq)))
          have OT := hide (OT.out.kept k8 (fun q hq e => OU.out.ne OT.out (by decide) e hq))
          try (have LT := hide (LT.out.kept k8 (fun q hq e => OU.out.ne LT.out (by decide) e hq)))
          have HU : Hid (∀ q, inB AU q → inB UA q ∨ w1.heap.size ≤ q) := hide (fun q hq => (hA8 q hq).imp id (fun h => by have := KK.out.size; omega))
          have KK := hide (KK.out.step k8 (fun q hq e => .inr (.inl e)))
          have OU := hide o8
          clear o8 k8 hA8 LU
          refine hK.out _ _ (HSg.out _ KK.out) (fun _ => ?_)
          clear hK K
          obtain ⟨wc, rfl⟩ : ∃ x : World, x = wn := ⟨_, rfl⟩
          (try simp only [Act.put, List.getElem_toArray, List.getElem_cons_succ, List.getElem_cons_zero, List.setIfInBounds_toArray, List.set_cons_zero, List.set_cons_succ])
          refine wpAnyL_ready (rs := [20]) (by kernel_rfl) (by simp) (AllL.cons rfl (fun K hK => ?_) AllL.nil)
          go_simp
          obtain ⟨gT, hg⟩ : ∃ g, g = wc.heap.size := ⟨_, rfl⟩
          obtain ⟨wn, hwn⟩ : ∃ x, x = wc.alloc (.cells #[.int .i64 0, .int .i64 0, .int .i64 0] 40) := ⟨_, rfl⟩
          have k0 : Keeps (fun _ => False) wc wn := by rw [hwn]; exact (Keeps.refl _ _).alloc _
          have OK := hide (OK.out.kept k0 (fun _ _ h => h))
          have OU := hide (OU.out.kept k0 (fun _ _ h => h))
          have OT := hide (OT.out.kept k0 (fun _ _ h => h))
          try (have LK := hide (LK.out.kept k0 (fun _ _ h => h)))
          try (have LU := hide (LU.out.kept k0 (fun _ _ h => h)))
          have KK := hide (KK.out.step0 k0)
          have LT : Hid (Own wn 0 40 3 (some ⟨gT, 0, none⟩) 1 1 [.int .i64 0, .int .i64 0, .int .i64 0]) := hide (by rw [hwn]; exact Own.new_at wc 0 _ #[.int .i64 0, .int .i64 0, .int .i64 0] 1 3 gT hg (Nat.zero_le _) (by simp [maxLen]) rfl)
          rw [← hwn, ← hg]
          refine hK.out _ _ (HSg.out _ KK.out) (fun _ => ?_)
          clear hK K hg hwn k0
          obtain ⟨wc, rfl⟩ : ∃ x : World, x = wn := ⟨_, rfl⟩
          (try simp only [Act.put, List.getElem_toArray, List.getElem_cons_succ, List.getElem_cons_zero, List.setIfInBounds_toArray, List.set_cons_zero, List.set_cons_succ])
          refine wpAnyL_ready (rs := [21]) (by kernel_rfl) (by simp) (AllL.cons rfl (fun K hK => ?_) AllL.nil)
          refine step_app _ elemHdP (by rfl) (.tmp 98) (.tmp 100) (by rfl) 0 (A := TA) (n := N) (c := tc) (pehCs E) (by simp [Act.eval, Act.put]) OT.out _ (A2 := some ⟨gT, 0, none⟩) (m := 1) (c2 := 1) [.int .i64 0, .int .i64 0, .int .i64 0] (by simp [Act.eval, Act.put]) (LT.out.rd (by omega)) (by simp [Value.oneCell']) (by simp only [maxLen]; omega) (by omega) (Nat.zero_le _) ?_
          intro AT cT wn o8 k8 hA8
          have OK := hide (OK.out.kept k8 (fun q hq e => OT.out.ne OK.out (by decide) e hq))
          try (have LK := hide (LK.out.kept k8 (fun q hq e => OT.out.ne LK.out (by decide) e hq)))
          have OU := hide (OU.out.kept k8 (fun q hq e => OT.out.ne OU.out (by decide) e hq))
          try (have LU := hide (LU.out.kept k8 (fun q hq e => OT.out.ne LU.out (by decide) e hq)))
          have HT : Hid (∀ q, inB AT q → inB TA q ∨ w1.heap.size ≤ q) := hide (fun q hq => (hA8 q hq).imp id (fun h => by have := KK.out.size; omega))
          have KK := hide (KK.out.step k8 (fun q hq e => .inr (.inr e)))
          have OT := hide o8
          clear o8 k8 hA8 LT
          refine hK.out _ _ (HSg.out _ KK.out) (fun _ => ?_)
          clear hK K
          obtain ⟨wc, rfl⟩ : ∃ x : World, x = wn := ⟨_, rfl⟩
          (try simp only [Act.put, List.getElem_toArray, List.getElem_cons_succ, List.getElem_cons_zero, List.setIfInBounds_toArray, List.set_cons_zero, List.set_cons_succ])
          have b8 := HR.out.blk.kept KK.out (fun e => HP.out e)
          have f2 := b8.frozen 2
          have f3 := b8.frozen 3
          have f4 := b8.frozen 4
          have d2 := b8.cell 2
          have d3 := b8.cell 3
          have d4 := b8.cell 4
          have hpl8 := b8.lt
          clear b8
          refine wpAnyL_any (i := 22) (v := ?_) rfl (by kernel_rfl) (by kernel_rfl) (by kernel_rfl) (fun _ _ _ h => h) (Or.inl ⟨by first | kernel_rfl | rfl, ?_⟩) ?_; rotate_left; focus (intro w hSw; (try dsimp only at hSw); go_simp; try (with_reducible rfl)); (try simp only [Act.put, List.getElem_toArray, List.getElem_cons_succ, List.getElem_cons_zero, List.setIfInBounds_toArray, List.set_cons_zero, List.set_cons_succ])
          refine wpAnyL_any (i := 23) (v := ?_) rfl (by kernel_rfl) (by kernel_rfl) (by kernel_rfl) (fun _ _ _ h => h) (Or.inl ⟨by first | kernel_rfl | rfl, ?_⟩) ?_; rotate_left; focus (intro w hSw; (try dsimp only at hSw); go_simp; try (with_reducible rfl)); (try simp only [Act.put, List.getElem_toArray, List.getElem_cons_succ, List.getElem_cons_zero, List.setIfInBounds_toArray, List.set_cons_zero, List.set_cons_succ])
          refine wpAnyL_ready (rs := [24]) (by kernel_rfl) (by simp) (AllL.last rfl rfl (fun K hK => ?_) AllL.nil)
          go_simp
          refine hK.out _ _ ?_
          clear hK K
          (try simp only [Act.put, List.getElem_toArray, List.getElem_cons_succ, List.getElem_cons_zero, List.setIfInBounds_toArray, List.set_cons_zero, List.set_cons_succ])
          refine wpAnyL_any (i := 25) (v := ?_) rfl (by kernel_rfl) (by kernel_rfl) (by kernel_rfl) (fun _ _ _ h => h) (Or.inl ⟨by first | kernel_rfl | rfl, ?_⟩) ?_; rotate_left; focus (intro w hSw; (try dsimp only at hSw); go_simp; try (with_reducible rfl)); (try simp only [Act.put, List.getElem_toArray, List.getElem_cons_succ, List.getElem_cons_zero, List.setIfInBounds_toArray, List.set_cons_zero, List.set_cons_succ])
          refine wpAnyL_any (i := 26) (v := ?_) rfl (by kernel_rfl) (by kernel_rfl) (by kernel_rfl) (fun _ _ _ h => h) (Or.inl ⟨by first | kernel_rfl | rfl, ?_⟩) ?_; rotate_left; focus (intro w hSw; (try dsimp only at hSw); go_simp; try (with_reducible rfl)); (try simp only [Act.put, List.getElem_toArray, List.getElem_cons_succ, List.getElem_cons_zero, List.setIfInBounds_toArray, List.set_cons_zero, List.set_cons_succ])
          refine wpAnyL_ready (rs := [27]) (by kernel_rfl) (by simp) (AllL.last rfl rfl (fun K hK => ?_) AllL.nil)
          go_simp
          refine hK.out _ _ ?_
          clear hK K
          (try simp only [Act.put, List.getElem_toArray, List.getElem_cons_succ, List.getElem_cons_zero, List.setIfInBounds_toArray, List.set_cons_zero, List.set_cons_succ])
          refine wpAnyL_any (i := 28) (v := ?_) rfl (by kernel_rfl) (by kernel_rfl) (by kernel_rfl) (fun _ _ _ h => h) (Or.inl ⟨by first | kernel_rfl | rfl, ?_⟩) ?_; rotate_left; focus (intro w hSw; (try dsimp only at hSw); go_simp; try (with_reducible rfl)); (try simp only [Act.put, List.getElem_toArray, List.getElem_cons_succ, List.getElem_cons_zero, List.setIfInBounds_toArray, List.set_cons_zero, List.set_cons_succ])
          refine wpAnyL_any (i := 29) (v := ?_) rfl (by kernel_rfl) (by kernel_rfl) (by kernel_rfl) (fun _ _ _ h => h) (Or.inl ⟨by first | kernel_rfl | rfl, ?_⟩) ?_; rotate_left; focus (intro w hSw; (try dsimp only at hSw); go_simp; try (with_reducible rfl)); (try simp only [Act.put, List.getElem_toArray, List.getElem_cons_succ, List.getElem_cons_zero, List.setIfInBounds_toArray, List.set_cons_zero, List.set_cons_succ])
          refine wpAnyL_ready (rs := [30]) (by kernel_rfl) (by simp) (AllL.last rfl rfl (fun K hK => ?_) AllL.nil)
          go_simp
          refine hK.out _ _ ?_
          clear hK K
          (try simp only [Act.put, List.getElem_toArray, List.getElem_cons_succ, List.getElem_cons_zero, List.setIfInBounds_toArray, List.set_cons_zero, List.set_cons_succ])
          refine wpAnyL_done (by kernel_rfl) ?_ _
          (try simp only [Act.put, List.getElem_toArray, List.getElem_cons_succ, List.getElem_cons_zero, List.setIfInBounds_toArray, List.set_cons_zero, List.set_cons_succ])
          refine show _ ∧ _ from ⟨⟨_, _, _, _, _, _, _, _, _, _, _, _, _, _, _, _, _, _, _, _, _, _, _, _, _, _, _, _, rfl⟩, ?_⟩
          exact HFin.out wc AK cK AU cU AT cT KK.out OK.out HK.out OU.out HU.out OT.out HT.out
          trace "LEAF9"
        ·
          go_simp
          obtain ⟨gT, hg⟩ : ∃ g, g = wc.heap.size := ⟨_, rfl⟩
          obtain ⟨wn, hwn⟩ : ∃ x, x = wc.alloc (.cells #[.int .i64 0, .int .i64 0, .int .i64 0] 40) := ⟨_, rfl⟩
          have k0 : Keeps (fun _ => False) wc wn := by rw [hwn]; exact (Keeps.refl _ _).alloc _
          have OK := hide (OK.out.kept k0 (fun _ _ h => h))
          have OU := hide (OU.out.kept k0 (fun _ _ h => h))
          have OT := hide (OT.out.kept k0 (fun _ _ h => h))
          try (have LK := hide (LK.out.kept k0 (fun _ _ h => h)))
          try (have LU := hide (LU.out.kept k0 (fun _ _ h => h)))
          have KK := hide (KK.out.step0 k0)
          have LT : Hid (Own wn 0 40 3 (some ⟨gT, 0, none⟩) 1 1 [.int .i64 0, .int .i64 0, .int .i64 0]) := hide (by rw [hwn]; exact Own.new_at wc 0 _ #[.int .i64 0, .int .i64 0, .int .i64 0] 1 3 gT hg (Nat.zero_le _) (by simp [maxLen]) rfl)
          rw [← hwn, ← hg]
          refine hK.out _ _ (HSg.out _ KK.out) (fun _ => ?_)
          clear hK K hg hwn k0
          obtain ⟨wc, rfl⟩ : ∃ x : World, x = wn := ⟨_, rfl⟩
          (try simp only [Act.put, List.getElem_toArray, List.getElem_cons_succ, List.getElem_cons_zero, List.setIfInBounds_toArray, List.set_cons_zero, List.set_cons_succ])
          refine wpAnyL_ready (rs := [14]) (by kernel_rfl) (by simp) (AllL.cons rfl (fun K hK => ?_) AllL.nil)
          refine step_app _ elemIntP (by rfl) (.tmp 92) (.tmp 93) (by rfl) 0 (A := UA) (n := N) (c := uc) (usCs E) (by simp [Act.eval, Act.put]) OU.out _ (A2 := some ⟨gU, 0, none⟩) (m := 1) (c2 := 1) [.int .i64 0] (by simp [Act.eval, Act.put]) (LU.out.rd (by omega)) (by simp [Value.oneCell']) (by simp only [maxLen]; omega) (by omega) (Nat.zero_le _) ?_
          intro AU cU wn o8 k8 hA8
          have OK := hide (OK.out.kept k8 (fun q hq e => OU.out.ne OK.out (by decide) e hq))
          try (have LK := hide (LK.out.kept k8 (fun q hq e => OU.out.ne LK.out (by decide) e hq)))
          have OT := hide (OT.out.kept k8 (fun q hq e => OU.out.ne OT.out (by decide) e hq))
          try (have LT := hide (LT.out.kept k8 (fun q hq e => OU.out.ne LT.out (by decide) e hq)))
          have HU : Hid (∀ q, inB AU q → inB UA q ∨ w1.heap.size ≤ q) := hide (fun q hq => (hA8 q hq).imp id (fun h => by have := KK.out.size; omega))
          have KK := hide (KK.out.step k8 (fun q hq e => .inr (.inl e)))
          have OU := hide o8
          clear o8 k8 hA8 LU
          refine hK.out _ _ (HSg.out _ KK.out) (fun _ => ?_)
          clear hK K
          obtain ⟨wc, rfl⟩ : ∃ x : World, x = wn := ⟨_, rfl⟩
          (try simp only [Act.put, List.getElem_toArray, List.getElem_cons_succ, List.getElem_cons_zero, List.setIfInBounds_toArray, List.set_cons_zero, List.set_cons_succ])
          refine wpAnyL_ready (rs := [21]) (by kernel_rfl) (by simp) (AllL.cons rfl (fun K hK => ?_) AllL.nil)
          refine step_app _ elemHdP (by rfl) (.tmp 98) (.tmp 100) (by rfl) 0 (A := TA) (n := N) (c := tc) (pehCs E) (by simp [Act.eval, Act.put]) OT.out _ (A2 := some ⟨gT, 0, none⟩) (m := 1) (c2 := 1) [.int .i64 0, .int .i64 0, .int .i64 0] (by simp [Act.eval, Act.put]) (LT.out.rd (by omega)) (by simp [Value.oneCell']) (by simp only [maxLen]; omega) (by omega) (Nat.zero_le _) ?_
          intro AT cT wn o8 k8 hA8
          have OK := hide (OK.out.kept k8 (fun q hq e => OT.out.ne OK.out (by decide) e hq))
          try (have LK := hide (LK.out.kept k8 (fun q hq e => OT.out.ne LK.out (by decide) e hq)))
          have OU := hide (OU.out.kept k8 (fun q hq e => OT.out.ne OU.out (by decide) e hq))
          try (have LU := hide (LU.out.kept k8 (fun q hq e => OT.out.ne LU.out (by decide) e hq)))
          have HT : Hid (∀ q, inB AT q → inB TA q ∨ w1.heap.size ≤ q) := hide (fun q hq => (hA8 q hq).imp id (fun h => by have := KK.out.size; omega))
          have KK := hide (KK.out.step k8 (fun q hq e => .inr (.inr e)))
          have OT := hide o8
          clear o8 k8 hA8 LT
          refine hK.out _ _ (HSg.out _ KK.out) (fun _ => ?_)
          clear hK K
          obtain ⟨wc, rfl⟩ : ∃ x : World, x = wn := ⟨_, rfl⟩
          (try simp only [Act.put, List.getElem_toArray, List.getElem_cons_succ, List.getElem_cons_zero, List.setIfInBounds_toArray, List.set_cons_zero, List.set_cons_succ])
          have b8 := HR.out.blk.kept KK.out (fun e => HP.out e)
          have f2 := b8.frozen 2
          have f3 := b8.frozen 3
          have f4 := b8.frozen 4
          have d2 := b8.cell 2
          have d3 := b8.cell 3
          have d4 := b8.cell 4
          have hpl8 := b8.lt
          clear b8
          refine wpAnyL_any (i := 22) (v := ?_) rfl (by kernel_rfl) (by kernel_rfl) (by kernel_rfl) (fun _ _ _ h => h) (Or.inl ⟨by first | kernel_rfl | rfl, ?_⟩) ?_; rotate_left; focus (intro w hSw; (try dsimp only at hSw); go_simp; try (with_reducible rfl)); (try simp only [Act.put, List.getElem_toArray, List.getElem_cons_succ, List.getElem_cons_zero, List.setIfInBounds_toArray, List.set_cons_zero, List.set_cons_succ])
          refine wpAnyL_any (i := 23) (v := ?_) rfl (by kernel_rfl) (by kernel_rfl) (by kernel_rfl) (fun _ _ _ h => h) (Or.inl ⟨by first | kernel_rfl | rfl, ?_⟩) ?_; rotate_left; focus (intro w hSw; (try dsimp only at hSw); go_simp; try (with_reducible rfl)); (try simp only [Act.put, List.getElem_toArray, List.getElem_cons_succ, List.getElem_cons_zero, List.setIfInBounds_toArray, List.set_cons_zero, List.set_cons_succ])
          refine wpAnyL_ready (rs := [24]) (by kernel_rfl) (by simp) (AllL.last rfl rfl (fun K hK => ?_) AllL.nil)
          go_simp
          refine hK.out _ _ ?_
          clear hK K
          (try simp only [Act.put, List.getElem_toArray, List.getElem_cons_succ, List.getElem_cons_zero, List.setIfInBounds_toArray, List.set_cons_zero, List.set_cons_succ])
          refine wpAnyL_any (i := 25) (v := ?_) rfl (by kernel_rfl) (by kernel_rfl) (by kernel_rfl) (fun _ _ _ h => h) (Or.inl ⟨by first | kernel_rfl | rfl, ?_⟩) ?_; rotate_left; focus (intro w hSw; (try dsimp only at hSw); go_simp; try (with_reducible rfl)); (try simp only [Act.put, List.getElem_toArray, List.getElem_cons_succ, List.getElem_cons_zero, List.setIfInBounds_toArray, List.set_cons_zero, List.set_cons_succ])
          refine wpAnyL_any (i := 26) (v := ?_) rfl (by kernel_rfl) (by kernel_rfl) (by kernel_rfl) (fun _ _ _ h => h) (Or.inl ⟨by first | kernel_rfl | rfl, ?_⟩) ?_; rotate_left; focus (intro w hSw; (try dsimp only at hSw); go_simp; try (with_reducible rfl)); (try simp only [Act.put, List.getElem_toArray, List.getElem_cons_succ, List.getElem_cons_zero, List.setIfInBounds_toArray, List.set_cons_zero, List.set_cons_succ])
          refine wpAnyL_ready (rs := [27]) (by kernel_rfl) (by simp) (AllL.last rfl rfl (fun K hK => ?_) AllL.nil)
          go_simp
          refine hK.out _ _ ?_
          clear hK K
          (try simp only [Act.put, List.getElem_toArray, List.getElem_cons_succ, List.getElem_cons_zero, List.setIfInBounds_toArray, List.set_cons_zero, List.set_cons_succ])
          refine wpAnyL_any (i := 28) (v := ?_) rfl (by kernel_rfl) (by kernel_rfl) (by kernel_rfl) (fun _ _ _ h => h) (Or.inl ⟨by first | kernel_rfl | rfl, ?_⟩) ?_; rotate_left; focus (intro w hSw; (try dsimp only at hSw); go_simp; try (with_reducible rfl)); (try simp only [Act.put, List.getElem_toArray, List.getElem_cons_succ, List.getElem_cons_zero, List.setIfInBounds_toArray, List.set_cons_zero, List.set_cons_succ])
          refine wpAnyL_any (i := 29) (v := ?_) rfl (by kernel_rfl) (by kernel_rfl) (by kernel_rfl) (fun _ _ _ h => h) (Or.inl ⟨by first | kernel_rfl | rfl, ?_⟩) ?_; rotate_left; focus (intro w hSw; (try dsimp only at hSw); go_simp; try (with_reducible rfl)); (try simp only [Act.put, List.getElem_toArray, List.getElem_cons_succ, List.getElem_cons_zero, List.setIfInBounds_toArray, List.set_cons_zero, List.set_cons_succ])
          refine wpAnyL_ready (rs := [30]) (by kernel_rfl) (by simp) (AllL.last rfl rfl (fun K hK => ?_) AllL.nil)
          go_simp
          refine hK.out _ _ ?_
          clear hK K
          (try simp only [Act.put, List.getElem_toArray, List.getElem_cons_succ, List.getElem_cons_zero, List.setIfInBounds_toArray, List.set_cons_zero, List.set_cons_succ])
          refine wpAnyL_done (by kernel_rfl) ?_ _
          (try simp only [Act.put, List.getElem_toArray, List.getElem_cons_succ, List.getElem_cons_zero, List.setIfInBounds_toArray, List.set_cons_zero, List.set_cons_succ])
          refine show _ ∧ _ from ⟨⟨_, _, _, _, _, _, _, _, _, _, _, _, _, _, _, _, _, _, _, _, _, _, _, _, _, _, _, _, rfl⟩, ?_⟩
          exact HFin.out wc AK cK AU cU AT cT KK.out OK.out HK.out OU.out HU.out OT.out HT.out
          trace "LEAF10"
      ·
        go_simp
        obtain ⟨gT, hg⟩ : ∃ g, g = wc.heap.size := ⟨_, rfl⟩
        obtain ⟨wn, hwn⟩ : ∃ x, x = wc.alloc (.cells #[.int .i64 0, .int .i64 0, .int .i64 0] 40) := ⟨_, rfl⟩
        have k0 : Keeps (fun _ => False) wc wn := by rw [hwn]; exact (Keeps.refl _ _).alloc _
        have OK := hide (OK.out.kept k0 (fun _ _ h => h))
        have OU := hide (OU.out.kept k0 (fun _ _ h => h))
        have OT := hide (OT.out.kept k0 (fun _ _ h => h))
        try (have LK := hide (LK.out.kept k0 (fun _ _ h => h)))
        try (have LU := hide (LU.out.kept k0 (fun _ _ h => h)))
        have KK := hide (KK.out.step0 k0)
        have LT : Hid (Own wn 0 40 3 (some ⟨gT, 0, none⟩) 1 1 [.int .i64 0, .int .i64 0, .int .i64 0]) := hide (by rw [hwn]; exact Own.new_at wc 0 _ #[.int .i64 0, .int .i64 0, .int .i64 0] 1 3 gT hg (Nat.zero_le _) (by simp [maxLen]) rfl)
        rw [← hwn, ← hg]
        refine hK.out _ _ (HSg.out _ KK.out) (fun _ => ?_)
        clear hK K hg hwn k0
        obtain ⟨wc, rfl⟩ : ∃ x : World, x = wn := ⟨_, rfl⟩
        (try simp only [Act.put, List.getElem_toArray, List.getElem_cons_succ, List.getElem_cons_zero, List.setIfInBounds_toArray, List.set_cons_zero, List.set_cons_succ])
        refine wpAnyL_ready (rs := [8]) (by kernel_rfl) (by simp) (AllL.cons rfl (fun K hK => ?_) AllL.nil)
        refine step_app _ elemStr (by rfl) (.tmp 86) (.tmp 87) (by rfl) 0 (A := KA) (n := N) (c := kc) (kyCs E) (by simp [Act.eval, Act.put]) OK.out _ (A2 := some ⟨gK, 0, none⟩) (m := 1) (c2 := 1) [.string ⟨#[]⟩] (by simp [Act.eval, Act.put]) (LK.out.rd (by omega)) (by simp [Value.oneCell']) (by simp only [maxLen]; omega) (by omega) (Nat.zero_le _) ?_
        intro AK cK wn o8 k8 hA8
        have OU := hide (OU.out.kept k8 (fun q hq e => OK.out.ne OU.out (by decide) e hq))
        try (have LU := hide (LU.out.kept k8 (fun q hq e => OK.out.ne LU.out (by decide) e hq)))
        have OT := hide (OT.out.kept k8 (fun q hq e => OK.out.ne OT.out (by decide) e hq))
        try (have LT := hide (LT.out.kept k8 (fun q hq e => OK.out.ne LT.out (by decide) e hq)))
        have HK : Hid (∀ q, inB AK q → inB KA q ∨ w1.heap.size ≤ q) := hide (fun q hq => (hA8 q hq).imp id (fun h => by have := KK.out.size; omega))
        have KK := hide (KK.out.step k8 (fun q hq e => .inl e))
        have OK := hide o8
        clear o8 k8 hA8 LK
        refine hK.out _ _ (HSg.out _ KK.out) (fun _ => ?_)
        clear hK K
        obtain ⟨wc, rfl⟩ : ∃ x : World, x = wn := ⟨_, rfl⟩
        (try simp only [Act.put, List.getElem_toArray, List.getElem_cons_succ, List.getElem_cons_zero, List.setIfInBounds_toArray, List.set_cons_zero, List.set_cons_succ])
        refine wpAnyL_ready (rs := [14]) (by kernel_rfl) (by simp) (AllL.cons rfl (fun K hK => ?_) AllL.nil)
        refine step_app _ elemIntP (by rfl) (.tmp 92) (.tmp 93) (by rfl) 0 (A := UA) (n := N) (c := uc) (usCs E) (by simp [Act.eval, Act.put]) OU.out _ (A2 := some ⟨gU, 0, none⟩) (m := 1) (c2 := 1) [.int .i64 0] (by simp [Act.eval, Act.put]) (LU.out.rd (by omega)) (by simp [Value.oneCell']) (by simp only [maxLen]; omega) (by omega) (Nat.zero_le _) ?_
        intro AU cU wn o8 k8 hA8
        have OK := hide (OK.out.kept k8 (fun q hq e => OU.out.ne OK.out (by decide) e hq))
        try (have LK := hide (LK.out.kept k8 (fun q hq e => OU.out.ne LK.out (by decide) e hq)))
        have OT := hide (OT.out.kept k8 (fun q hq e => OU.out.ne OT.out (by decide) e hq))
        try (have LT := hide (LT.out.kept k8 (fun q hq e => OU.out.ne LT.out (by decide) e hq)))
        have HU : Hid (∀ q, inB AU q → inB UA q ∨ w1.heap.size ≤ q) := hide (fun q hq => (hA8 q hq).imp id (fun h => by have := KK.out.size; omega))
        have KK := hide (KK.out.step k8 (fun q hq e => .inr (.inl e)))
        have OU := hide o8
        clear o8 k8 hA8 LU
        refine hK.out _ _ (HSg.out _ KK.out) (fun _ => ?_)
        clear hK K
        obtain ⟨wc, rfl⟩ : ∃ x : World, x = wn := ⟨_, rfl⟩
        (try simp only [Act.put, List.getElem_toArray, List.getElem_cons_succ, List.getElem_cons_zero, List.setIfInBounds_toArray, List.set_cons_zero, List.set_cons_succ])
        refine wpAnyL_ready (rs := [21]) (by kernel_rfl) (by simp) (AllL.cons rfl (fun K hK => ?_) AllL.nil)
        refine step_app _ elemHdP (by rfl) (.tmp 98) (.tmp 100) (by rfl) 0 (A := TA) (n := N) (c := tc) (pehCs E) (by simp [Act.eval, Act.put]) OT.out _ (A2 := some ⟨gT, 0, none⟩) (m := 1) (c2 := 1) [.int .i64 0, .int .i64 0, .int .i64 0] (by simp [Act.eval, Act.put]) (LT.out.rd (by omega)) (by simp [Value.oneCell']) (by simp only [maxLen]; omega) (by omega) (Nat.zero_le _) ?_
        intro AT cT wn o8 k8 hA8
        have OK := hide (OK.out.kept k8 (fun q hq e => OT.out.ne OK.out (by decide) e hq))
        try (have LK := hide (LK.out.kept k8 (fun q hq e => OT.out.ne LK.out (by decide) e hq)))
        have OU := hide (OU.out.kept k8 (fun q hq e => OT.out.ne OU.out (by decide) e hq))
        try (have LU := hide (LU.out.kept k8 (fun q hq e => OT.out.ne LU.out (by decide) e hq)))
        have HT : Hid (∀ q, inB AT q → inB TA q ∨ w1.heap.size ≤ q) := hide (fun q hq => (hA8 q hq).imp id (fun h => by have := KK.out.size; omega))
        have KK := hide (KK.out.step k8 (fun q hq e => .inr (.inr e)))
        have OT := hide o8
        clear o8 k8 hA8 LT
        refine hK.out _ _ (HSg.out _ KK.out) (fun _ => ?_)
        clear hK K
        obtain ⟨wc, rfl⟩ : ∃ x : World, x = wn := ⟨_, rfl⟩
        (try simp only [Act.put, List.getElem_toArray, List.getElem_cons_succ, List.getElem_cons_zero, List.setIfInBounds_toArray, List.set_cons_zero, List.set_cons_succ])
        have b8 := HR.out.blk.kept KK.out (fun e => HP.out e)
        have f2 := b8.frozen 2
        have f3 := b8.frozen 3
        have f4 := b8.frozen 4
        have d2 := b8.cell 2
        have d3 := b8.cell 3
        have d4 := b8.cell 4
        have hpl8 := b8.lt
        clear b8
        refine wpAnyL_any (i := 22) (v := ?_) rfl (by kernel_rfl) (by kernel_rfl) (by kernel_rfl) (fun _ _ _ h => h) (Or.inl ⟨by first | kernel_rfl | rfl, ?_⟩) ?_; rotate_left; focus (intro w hSw; (try dsimp only at hSw); go_simp; try (with_reducible rfl)); (try simp only [Act.put, List.getElem_toArray, List.getElem_cons_succ, List.getElem_cons_zero, List.setIfInBounds_toArray, List.set_cons_zero, List.set_cons_succ])
        refine wpAnyL_any (i := 23) (v := ?_) rfl (by kernel_rfl) (by kernel_rfl) (by kernel_rfl) (fun _ _ _ h => h) (Or.inl ⟨by first | kernel_rfl | rfl, ?_⟩) ?_; rotate_left; focus (intro w hSw; (try dsimp only at hSw); go_simp; try (with_reducible rfl)); (try simp only [Act.put, List.getElem_toArray, List.getElem_cons_succ, List.getElem_cons_zero, List.setIfInBounds_toArray, List.set_cons_zero, List.set_cons_succ])
        refine wpAnyL_ready (rs := [24]) (by kernel_rfl) (by simp) (AllL.last rfl rfl (fun K hK => ?_) AllL.nil)
        go_simp
        refine hK.out _ _ ?_
        clear hK K
        (try simp only [Act.put, List.getElem_toArray, List.getElem_cons_succ, List.getElem_cons_zero, List.setIfInBounds_toArray, List.set_cons_zero, List.set_cons_succ])
        refine wpAnyL_any (i := 25) (v := ?_) rfl (by kernel_rfl) (by kernel_rfl) (by kernel_rfl) (fun _ _ _ h => h) (Or.inl ⟨by first | kernel_rfl | rfl, ?_⟩) ?_; rotate_left; focus (intro w hSw; (try dsimp only at hSw); go_simp; try (with_reducible rfl)); (try simp only [Act.put, List.getElem_toArray, List.getElem_cons_succ, List.getElem_cons_zero, List.setIfInBounds_toArray, List.set_cons_zero, List.set_cons_succ])
        refine wpAnyL_any (i := 26) (v := ?_) rfl (by kernel_rfl) (by kernel_rfl) (by kernel_rfl) (fun _ _ _ h => h) (Or.inl ⟨by first | kernel_rfl | rfl, ?_⟩) ?_; rotate_left; focus (intro w hSw; (try dsimp only at hSw); go_simp; try (with_reducible rfl)); (try simp only [Act.put, List.getElem_toArray, List.getElem_cons_succ, List.getElem_cons_zero, List.setIfInBounds_toArray, List.set_cons_zero, List.set_cons_succ])
        refine wpAnyL_ready (rs := [27]) (by kernel_rfl) (by simp) (AllL.last rfl rfl (fun K hK => ?_) AllL.nil)
        go_simp
        refine hK.out _ _ ?_
        clear hK K
        (try simp only [Act.put, List.getElem_toArray, List.getElem_cons_succ, List.getElem_cons_zero, List.setIfInBounds_toArray, List.set_cons_zero, List.set_cons_succ])
        refine wpAnyL_any (i := 28) (v := ?_) rfl (by kernel_rfl) (by kernel_rfl) (by kernel_rfl) (fun _ _ _ h => h) (Or.inl ⟨by first | kernel_rfl | rfl, ?_⟩) ?_; rotate_left; focus (intro w hSw; (try dsimp only at hSw); go_simp; try (with_reducible rfl)); (try simp only [Act.put, List.getElem_toArray, List.getElem_cons_succ, List.getElem_cons_zero, List.setIfInBounds_toArray, List.set_cons_zero, List.set_cons_succ])
        refine wpAnyL_any (i := 29) (v := ?_) rfl (by kernel_rfl) (by kernel_rfl) (by kernel_rfl) (fun _ _ _ h => h) (Or.inl ⟨by first | kernel_rfl | rfl, ?_⟩) ?_; rotate_left; focus (intro w hSw; (try dsimp only at hSw); go_simp; try (with_reducible rfl)); (try simp only [Act.put, List.getElem_toArray, List.getElem_cons_succ, List.getElem_cons_zero, List.setIfInBounds_toArray, List.set_cons_zero, List.set_cons_succ])
        refine wpAnyL_ready (rs := [30]) (by kernel_rfl) (by simp) (AllL.last rfl rfl (fun K hK => ?_) AllL.nil)
        go_simp
        refine hK.out _ _ ?_
        clear hK K
        (try simp only [Act.put, List.getElem_toArray, List.getElem_cons_succ, List.getElem_cons_zero, List.setIfInBounds_toArray, List.set_cons_zero, List.set_cons_succ])
        refine wpAnyL_done (by kernel_rfl) ?_ _
        (try simp only [Act.put, List.getElem_toArray, List.getElem_cons_succ, List.getElem_cons_zero, List.setIfInBounds_toArray, List.set_cons_zero, List.set_cons_succ])
        refine show _ ∧ _ from ⟨⟨_, _, _, _, _, _, _, _, _, _, _, _, _, _, _, _, _, _, _, _, _, _, _, _, _, _, _, _, rfl⟩, ?_⟩
        exact HFin.out wc AK cK AU cU AT cT KK.out OK.out HK.out OU.out HU.out OT.out HT.out
        trace "LEAF11"
    ·
      go_simp
      obtain ⟨gT, hg⟩ : ∃ g, g = wc.heap.size := ⟨_, rfl⟩
      obtain ⟨wn, hwn⟩ : ∃ x, x = wc.alloc (.cells #[.int .i64 0, .int .i64 0, .int .i64 0] 40) := ⟨_, rfl⟩
      have k0 : Keeps (fun _ => False) wc wn := by rw [hwn]; exact (Keeps.refl _ _).alloc _
      have OK := hide (OK.out.kept k0 (fun _ _ h => h))
      have OU := hide (OU.out.kept k0 (fun _ _ h => h))
      have OT := hide (OT.out.kept k0 (fun _ _ h => h))
      try (have LK := hide (LK.out.kept k0 (fun _ _ h => h)))
      try (have LU := hide (LU.out.kept k0 (fun _ _ h => h)))
      have KK := hide (KK.out.step0 k0)
      have LT : Hid (Own wn 0 40 3 (some ⟨gT, 0, none⟩) 1 1 [.int .i64 0, .int .i64 0, .int .i64 0]) := hide (by rw [hwn]; exact Own.new_at wc 0 _ #[.int .i64 0, .int .i64 0, .int .i64 0] 1 3 gT hg (Nat.zero_le _) (by simp [maxLen]) rfl)
      rw [← hwn, ← hg]
      refine hK.out _ _ (HSg.out _ KK.out) (fun _ => ?_)
      clear hK K hg hwn k0
      obtain ⟨wc, rfl⟩ : ∃ x : World, x = wn := ⟨_, rfl⟩
      (try simp only [Act.put, List.getElem_toArray, List.getElem_cons_succ, List.getElem_cons_zero, List.setIfInBounds_toArray, List.set_cons_zero, List.set_cons_succ])
      refine wpAnyL_ready (rs := [7]) (by kernel_rfl) (by simp) (AllL.cons rfl (fun K hK => ?_) AllL.nil)
      go_simp
      obtain ⟨gK, hg⟩ : ∃ g, g = wc.heap.size := ⟨_, rfl⟩
      obtain ⟨wn, hwn⟩ : ∃ x, x = wc.alloc (.cells #[.string ⟨#[]⟩] 9) := ⟨_, rfl⟩
      have k0 : Keeps (fun _ => False) wc wn := by rw [hwn]; exact (Keeps.refl _ _).alloc _
      have OK := hide (OK.out.kept k0 (fun _ _ h => h))
      have OU := hide (OU.out.kept k0 (fun _ _ h => h))
      have OT := hide (OT.out.kept k0 (fun _ _ h => h))
      try (have LU := hide (LU.out.kept k0 (fun _ _ h => h)))
      try (have LT := hide (LT.out.kept k0 (fun _ _ h => h)))
      have KK := hide (KK.out.step0 k0)
      have LK : Hid (Own wn 0 9 1 (some ⟨gK, 0, none⟩) 1 1 [.string ⟨#[]⟩]) := hide (by rw [hwn]; exact Own.new_at wc 0 _ #[.string ⟨#[]⟩] 1 1 gK hg (Nat.zero_le _) (by simp [maxLen]) rfl)
      rw [← hwn, ← hg]
      refine hK.out _ _ (HSg.out _ KK.out) (fun _ => ?_)
      clear hK K hg hwn k0
      obtain ⟨wc, rfl⟩ : ∃ x : World, x = wn := ⟨_, rfl⟩
      (try simp only [Act.put, List.getElem_toArray, List.getElem_cons_succ, List.getElem_cons_zero, List.setIfInBounds_toArray, List.set_cons_zero, List.set_cons_succ])
      refine wpAnyL_ready (rs := [8]) (by kernel_rfl) (by simp) (AllL.cons rfl (fun K hK => ?_) AllL.nil)
      refine step_app _ elemStr (by rfl) (.tmp 86) (.tmp 87) (by rfl) 0 (A := KA) (n := N) (c := kc) (kyCs E) (by simp [Act.eval, Act.put]) OK.out _ (A2 := some ⟨gK, 0, none⟩) (m := 1) (c2 := 1) [.string ⟨#[]⟩] (by simp [Act.eval, Act.put]) (LK.out.rd (by omega)) (by simp [Value.oneCell']) (by simp only [maxLen]; omega) (by omega) (Nat.zero_le _) ?_
      intro AK cK wn o8 k8 hA8
      have OU := hide (OU.out.kept k8 (fun q hq e => OK.out.ne OU.out (by decide) e hq))
      try (have LU := hide (LU.out.kept k8 (fun q hq e => OK.out.ne LU.out (by decide) e hq)))
      have OT := hide (OT.out.kept k8 (fun q hq e => OK.out.ne OT.out (by decide) e hq))
      try (have LT := hide (LT.out.kept k8 (fun q hq e => OK.out.ne LT.out (by decide) e hq)))
      have HK : Hid (∀ q, inB AK q → inB KA q ∨ w1.heap.size ≤ q) := hide (fun q hq => (hA8 q hq).imp id (fun h => by have := KK.out.size; omega))
      have KK := hide (KK.out.step k8 (fun q hq e => .inl e))
      have OK := hide o8
      clear o8 k8 hA8 LK
      refine hK.out _ _ (HSg.out _ KK.out) (fun _ => ?_)
      clear hK K
      obtain ⟨wc, rfl⟩ : ∃ x : World, x = wn := ⟨_, rfl⟩
      (try simp only [Act.put, List.getElem_toArray, List.getElem_cons_succ, List.getElem_cons_zero, List.setIfInBounds_toArray, List.set_cons_zero, List.set_cons_succ])
      refine wpAnyL_ready (rs := [14]) (by kernel_rfl) (by simp) (AllL.cons rfl (fun K hK => ?_) AllL.nil)
      refine step_app _ elemIntP (by rfl) (.tmp 92) (.tmp 93) (by rfl) 0 (A := UA) (n := N) (c := uc) (usCs E) (by simp [Act.eval, Act.put]) OU.out _ (A2 := some ⟨gU, 0, none⟩) (m := 1) (c2 := 1) [.int .i64 0] (by simp [Act.eval, Act.put]) (LU.out.rd (by omega)) (by simp [Value.oneCell']) (by simp only [maxLen]; omega) (by omega) (Nat.zero_le _) ?_
      intro AU cU wn o8 k8 hA8
      have OK := hide (OK.out.kept k8 (fun q hq e => OU.out.ne OK.out (by decide) e hq))
      try (have LK := hide (LK.out.kept k8 (fun q hq e => OU.out.ne LK.out (by decide) e hq)))
      have OT := hide (OT.out.kept k8 (fun q hq e => OU.out.ne OT.out (by decide) e hq))
      try (have LT := hide (LT.out.kept k8 (fun q hq e => OU.out.ne LT.out (by decide) e hq)))
      have HU : Hid (∀ q, inB AU q → inB UA q ∨ w1.heap.size ≤ q) := hide (fun q hq => (hA8 q hq).imp id (fun h => by have := KK.out.size; omega))
      have KK := hide (KK.out.step k8 (fun q hq e => .inr (.inl e)))
      have OU := hide o8
      clear o8 k8 hA8 LU
      refine hK.out _ _ (HSg.out _ KK.out) (fun _ => ?_)
      clear hK K
      obtain ⟨wc, rfl⟩ : ∃ x : World, x = wn := ⟨_, rfl⟩
      (try simp only [Act.put, List.getElem_toArray, List.getElem_cons_succ, List.getElem_cons_zero, List.setIfInBounds_toArray, List.set_cons_zero, List.set_cons_succ])
      refine wpAnyL_ready (rs := [21]) (by kernel_rfl) (by simp) (AllL.cons rfl (fun K hK => ?_) AllL.nil)
      refine step_app _ elemHdP (by rfl) (.tmp 98) (.tmp 100) (by rfl) 0 (A := TA) (n := N) (c := tc) (pehCs E) (by simp [Act.eval, Act.put]) OT.out _ (A2 := some ⟨gT, 0, none⟩) (m := 1) (c2 := 1) [.int .i64 0, .int .i64 0, .int .i64 0] (by simp [Act.eval, Act.put]) (LT.out.rd (by omega)) (by simp [Value.oneCell']) (by simp only [maxLen]; omega) (by omega) (Nat.zero_le _) ?_
      intro AT cT wn o8 k8 hA8
      have OK := hide (OK.out.kept k8 (fun q hq e => OT.out.ne OK.out (by decide) e hq))
      try (have LK := hide (LK.out.kept k8 (fun q hq e => OT.out.ne LK.out (by decide) e hq)))
      have OU := hide (OU.out.kept k8 (fun q hq e => OT.out.ne OU.out (by decide) e hq))
      try (have LU := hide (LU.out.kept k8 (fun q hq e => OT.out.ne LU.out (by decide) e hq)))
      have HT : Hid (∀ q, inB AT q → inB TA q ∨ w1.heap.size ≤ q) := hide (fun q hq => (hA8 q hq).imp id (fun h => by have := KK.out.size; omega))
      have KK := hide (KK.out.step k8 (fun q hq e => .inr (.inr e)))
      have OT := hide o8
      clear o8 k8 hA8 LT
      refine hK.out _ _ (HSg.out _ KK.out) (fun _ => ?_)
      clear hK K
      obtain ⟨wc, rfl⟩ : ∃ x : World, x = wn := ⟨_, rfl⟩
      (try simp only [Act.put, List.getElem_toArray, List.getElem_cons_succ, List.getElem_cons_zero, List.setIfInBounds_toArray, List.set_cons_zero, List.set_cons_succ])
      have b8 := HR.out.blk.kept KK.out (fun e => HP.out e)
      have f2 := b8.frozen 2
      have f3 := b8.frozen 3
      have f4 := b8.frozen 4
      have d2 := b8.cell 2
      have d3 := b8.cell 3
      have d4 := b8.cell 4
      have hpl8 := b8.lt
      clear b8
      refine wpAnyL_any (i := 22) (v := ?_) rfl (by kernel_rfl) (by kernel_rfl) (by kernel_rfl) (fun _ _ _ h => h) (Or.inl ⟨by first | kernel_rfl | rfl, ?_⟩) ?_; rotate_left; focus (intro w hSw; (try dsimp only at hSw); go_simp; try (with_reducible rfl)); (try simp only [Act.put, List.getElem_toArray, List.getElem_cons_succ, List.getElem_cons_zero, List.setIfInBounds_toArray, List.set_cons_zero, List.set_cons_succ])
      refine wpAnyL_any (i := 23) (v := ?_) rfl (by kernel_rfl) (by kernel_rfl) (by kernel_rfl) (fun _ _ _ h => h) (Or.inl ⟨by first | kernel_rfl | rfl, ?_⟩) ?_; rotate_left; focus (intro w hSw; (try dsimp only at hSw); go_simp; try (with_reducible rfl)); (try simp only [Act.put, List.getElem_toArray, List.getElem_cons_succ, List.getElem_cons_zero, List.setIfInBounds_toArray, List.set_cons_zero, List.set_cons_succ])
      refine wpAnyL_ready (rs := [24]) (by kernel_rfl) (by simp) (AllL.last rfl rfl (fun K hK => ?_) AllL.nil)
      go_simp
      refine hK.out _ _ ?_
      clear hK K
      (try simp only [Act.put, List.getElem_toArray, List.getElem_cons_succ, List.getElem_cons_zero, List.setIfInBounds_toArray, List.set_cons_zero, List.set_cons_succ])
      refine wpAnyL_any (i := 25) (v := ?_) rfl (by kernel_rfl) (by kernel_rfl) (by kernel_rfl) (fun _ _ _ h => h) (Or.inl ⟨by first | kernel_rfl | rfl, ?_⟩) ?_; rotate_left; focus (intro w hSw; (try dsimp only at hSw); go_simp; try (with_reducible rfl)); (try simp only [Act.put, List.getElem_toArray, List.getElem_cons_succ, List.getElem_cons_zero, List.setIfInBounds_toArray, List.set_cons_zero, List.set_cons_succ])
      refine wpAnyL_any (i := 26) (v := ?_) rfl (by kernel_rfl) (by kernel_rfl) (by kernel_rfl) (fun _ _ _ h => h) (Or.inl ⟨by first | kernel_rfl | rfl, ?_⟩) ?_; rotate_left; focus (intro w hSw; (try dsimp only at hSw); go_simp; try (with_reducible rfl)); (try simp only [Act.put, List.getElem_toArray, List.getElem_cons_succ, List.getElem_cons_zero, List.setIfInBounds_toArray, List.set_cons_zero, List.set_cons_succ])
      refine wpAnyL_ready (rs := [27]) (by kernel_rfl) (by simp) (AllL.last rfl rfl (fun K hK => ?_) AllL.nil)
      go_simp
      refine hK.out _ _ ?_
      clear hK K
      (try simp only [Act.put, List.getElem_toArray, List.getElem_cons_succ, List.getElem_cons_zero, List.setIfInBounds_toArray, List.set_cons_zero, List.set_cons_succ])
      refine wpAnyL_any (i := 28) (v := ?_) rfl (by kernel_rfl) (by kernel_rfl) (by kernel_rfl) (fun _ _ _ h => h) (Or.inl ⟨by first | kernel_rfl | rfl, ?_⟩) ?_; rotate_left; focus (intro w hSw; (try dsimp only at hSw); go_simp; try (with_reducible rfl)); (try simp only [Act.put, List.getElem_toArray, List.getElem_cons_succ, List.getElem_cons_zero, List.setIfInBounds_toArray, List.set_cons_zero, List.set_cons_succ])
      refine wpAnyL_any (i := 29) (v := ?_) rfl (by kernel_rfl) (by kernel_rfl) (by kernel_rfl) (fun _ _ _ h => h) (Or.inl ⟨by first | kernel_rfl | rfl, ?_⟩) ?_; rotate_left; focus (intro w hSw; (try dsimp only at hSw); go_simp; try (with_reducible rfl)); (try simp only [Act.put, List.getElem_toArray, List.getElem_cons_succ, List.getElem_cons_zero, List.setIfInBounds_toArray, List.set_cons_zero, List.set_cons_succ])
      refine wpAnyL_ready (rs := [30]) (by kernel_rfl) (by simp) (AllL.last rfl rfl (fun K hK => ?_) AllL.nil)
      go_simp
      refine hK.out _ _ ?_
      clear hK K
      (try simp only [Act.put, List.getElem_toArray, List.getElem_cons_succ, List.getElem_cons_zero, List.setIfInBounds_toArray, List.set_cons_zero, List.set_cons_succ])
      refine wpAnyL_done (by kernel_rfl) ?_ _
      (try simp only [Act.put, List.getElem_toArray, List.getElem_cons_succ, List.getElem_cons_zero, List.setIfInBounds_toArray, List.set_cons_zero, List.set_cons_succ])
      refine show _ ∧ _ from ⟨⟨_, _, _, _, _, _, _, _, _, _, _, _, _, _, _, _, _, _, _, _, _, _, _, _, _, _, _, _, rfl⟩, ?_⟩
      exact HFin.out wc AK cK AU cU AT cT KK.out OK.out HK.out OU.out HU.out OT.out HT.out
      trace "LEAF12"
  ·
    go_simp
    obtain ⟨gT, hg⟩ : ∃ g, g = wc.heap.size := ⟨_, rfl⟩
    obtain ⟨wn, hwn⟩ : ∃ x, x = wc.alloc (.cells #[.int .i64 0, .int .i64 0, .int .i64 0] 40) := ⟨_, rfl⟩
    have k0 : Keeps (fun _ => False) wc wn := by rw [hwn]; exact (Keeps.refl _ _).alloc _
    have OK := hide (OK.out.kept k0 (fun _ _ h => h))
    have OU := hide (OU.out.kept k0 (fun _ _ h => h))
    have OT := hide (OT.out.kept k0 (fun _ _ h => h))
    try (have LK := hide (LK.out.kept k0 (fun _ _ h => h)))
    try (have LU := hide (LU.out.kept k0 (fun _ _ h => h)))
    have KK := hide (KK.out.step0 k0)
    have LT : Hid (Own wn 0 40 3 (some ⟨gT, 0, none⟩) 1 1 [.int .i64 0, .int .i64 0, .int .i64 0]) := hide (by rw [hwn]; exact Own.new_at wc 0 _ #[.int .i64 0, .int .i64 0, .int .i64 0] 1 3 gT hg (Nat.zero_le _) (by simp [maxLen]) rfl)
    rw [← hwn, ← hg]
    refine hK.out _ _ (HSg.out _ KK.out) (fun _ => ?_)
    clear hK K hg hwn k0
    obtain ⟨wc, rfl⟩ : ∃ x : World, x = wn := ⟨_, rfl⟩
    (try simp only [Act.put, List.getElem_toArray, List.getElem_cons_succ, List.getElem_cons_zero, List.setIfInBounds_toArray, List.set_cons_zero, List.set_cons_succ])
    refine wpAnyL_ready (rs := [7, 13]) (by kernel_rfl) (by simp) (AllL.cons rfl (fun K hK => ?_) (AllL.cons rfl (fun K hK => ?_) AllL.nil))
    ·
      go_simp
      obtain ⟨gK, hg⟩ : ∃ g, g = wc.heap.size := ⟨_, rfl⟩
      obtain ⟨wn, hwn⟩ : ∃ x, x = wc.alloc (.cells #[.string ⟨#[]⟩] 9) := ⟨_, rfl⟩
      have k0 : Keeps (fun _ => False) wc wn := by rw [hwn]; exact (Keeps.refl _ _).alloc _
      have OK := hide (OK.out.kept k0 (fun _ _ h => h))
      have OU := hide (OU.out.kept k0 (fun _ _ h => h))
      have OT := hide (OT.out.kept k0 (fun _ _ h => h))
      try (have LU := hide (LU.out.kept k0 (fun _ _ h => h)))
      try (have LT := hide (LT.out.kept k0 (fun _ _ h => h)))
      have KK := hide (KK.out.step0 k0)
      have LK : Hid (Own wn 0 9 1 (some ⟨gK, 0, none⟩) 1 1 [.string ⟨#[]⟩]) := hide (by rw [hwn]; exact Own.new_at wc 0 _ #[.string ⟨#[]⟩] 1 1 gK hg (Nat.zero_le _) (by simp [maxLen]) rfl)
      rw [← hwn, ← hg]
      refine hK.out _ _ (HSg.out _ KK.out) (fun _ => ?_)
      clear hK K hg hwn k0
      obtain ⟨wc, rfl⟩ : ∃ x : World, x = wn := ⟨_, rfl⟩
      (try simp only [Act.put, List.getElem_toArray, List.getElem_cons_succ, List.getElem_cons_zero, List.setIfInBounds_toArray, List.set_cons_zero, List.set_cons_succ])
      refine wpAnyL_ready (rs := [8, 13]) (by kernel_rfl) (by simp) (AllL.cons rfl (fun K hK => ?_) (AllL.cons rfl (fun K hK => ?_) AllL.nil))
      ·
        refine step_app _ elemStr (by rfl) (.tmp 86) (.tmp 87) (by rfl) 0 (A := KA) (n := N) (c := kc) (kyCs E) (by simp [Act.eval, Act.put]) OK.out _ (A2 := some ⟨gK, 0, none⟩) (m := 1) (c2 := 1) [.string ⟨#[]⟩] (by simp [Act.eval, Act.put]) (LK.out.rd (by omega)) (by simp [Value.oneCell']) (by simp only [maxLen]; omega) (by omega) (Nat.zero_le _) ?_
        intro AK cK wn o8 k8 hA8
        have OU := hide (OU.out.kept k8 (fun q hq e => OK.out.ne OU.out (by decide) e hq))
        try (have LU := hide (LU.out.kept k8 (fun q hq e => OK.out.ne LU.out (by decide) e hq)))
        have OT := hide (OT.out.kept k8 (fun q hq e => OK.out.ne OT.out (by decide) e hq))
        try (have LT := hide (LT.out.kept k8 (fun q hq e => OK.out.ne LT.out (by decide) e hq)))
        have HK : Hid (∀ q, inB AK q → inB KA q ∨ w1.heap.size ≤ q) := hide (fun q hq => (hA8 q hq).imp id (fun h => by have := KK.out.size; omega))
        have KK := hide (KK.out.step k8 (fun q hq e => .inl e))
        have OK := hide o8
        clear o8 k8 hA8 LK
        refine hK.out _ _ (HSg.out _ KK.out) (fun _ => ?_)
        clear hK K
        obtain ⟨wc, rfl⟩ : ∃ x : World, x = wn := ⟨_, rfl⟩
        (try simp only [Act.put, List.getElem_toArray, List.getElem_cons_succ, List.getElem_cons_zero, List.setIfInBounds_toArray, List.set_cons_zero, List.set_cons_succ])
        refine wpAnyL_ready (rs := [13]) (by kernel_rfl) (by simp) (AllL.cons rfl (fun K hK => ?_) AllL.nil)
        go_simp
        obtain ⟨gU, hg⟩ : ∃ g, g = wc.heap.size := ⟨_, rfl⟩
        obtain ⟨wn, hwn⟩ : ∃ x, x = wc.alloc (.cells #[.int .i64 0] 3) := ⟨_, rfl⟩
        have k0 : Keeps (fun _ => False) wc wn := by rw [hwn]; exact (Keeps.refl _ _).alloc _
        have OK := hide (OK.out.kept k0 (fun _ _ h => h))
        have OU := hide (OU.out.kept k0 (fun _ _ h => h))
        have OT := hide (OT.out.kept k0 (fun _ _ h => h))
        try (have LK := hide (LK.out.kept k0 (fun _ _ h => h)))
        try (have LT := hide (LT.out.kept k0 (fun _ _ h => h)))
        have KK := hide (KK.out.step0 k0)
        have LU : Hid (Own wn 0 3 1 (some ⟨gU, 0, none⟩) 1 1 [.int .i64 0]) := hide (by rw [hwn]; exact Own.new_at wc 0 _ #[.int .i64 0] 1 1 gU hg (Nat.zero_le _) (by simp [maxLen]) rfl)
        rw [← hwn, ← hg]
        refine hK.out _ _ (HSg.out _ KK.out) (fun _ => ?_)
        clear hK K hg hwn k0
        obtain ⟨wc, rfl⟩ : ∃ x : World, x = wn := ⟨_, rfl⟩
        (try simp only [Act.put, List.getElem_toArray, List.getElem_cons_succ, List.getElem_cons_zero, List.setIfInBounds_toArray, List.set_cons_zero, List.set_cons_succ])
        refine wpAnyL_ready (rs := [14]) (by kernel_rfl) (by simp) (AllL.cons rfl (fun K hK => ?_) AllL.nil)
        refine step_app _ elemIntP (by rfl) (.tmp 92) (.tmp 93) (by rfl) 0 (A := UA) (n := N) (c := uc) (usCs E) (by simp [Act.eval, Act.put]) OU.out _ (A2 := some ⟨gU, 0, none⟩) (m := 1) (c2 := 1) [.int .i64 0] (by simp [Act.eval, Act.put]) (LU.out.rd (by omega)) (by simp [Value.oneCell']) (by simp only [maxLen]; omega) (by omega) (Nat.zero_le _) ?_
        intro AU cU wn o8 k8 hA8
        have OK := hide (OK.out.kept k8 (fun q hq e => OU.out.ne OK.out (by decide) e hq))
        try (have LK := hide (LK.out.kept k8 (fun q hq e => OU.out.ne LK.out (by decide) e hq)))
        have OT := hide (OT.out.kept k8 (fun q hq e => OU.out.ne OT.out (by decide) e hq))
        try (have LT := hide (LT.out.kept k8 (fun q hq e => OU.out.ne LT.out (by decide) e hq)))
        have HU : Hid (∀ q, inB AU q → inB UA q ∨ w1.heap.size ≤ q) := hide (fun q hq => (hA8 q hq).imp id (fun h => by have := KK.out.size; omega))
        have KK := hide (KK.out.step k8 (fun q hq e => .inr (.inl e)))
        have OU := hide o8
        clear o8 k8 hA8 LU
        refine hK.out _ _ (HSg.out _ KK.out) (fun _ => ?_)
        clear hK K
        obtain ⟨wc, rfl⟩ : ∃ x : World, x = wn := ⟨_, rfl⟩
        (try simp only [Act.put, List.getElem_toArray, List.getElem_cons_succ, List.getElem_cons_zero, List.setIfInBounds_toArray, List.set_cons_zero, List.set_cons_succ])
        refine wpAnyL_ready (rs := [21]) (by kernel_rfl) (by simp) (AllL.cons rfl (fun K hK => ?_) AllL.nil)
        refine step_app _ elemHdP (by rfl) (.tmp 98) (.tmp 100) (by rfl) 0 (A := TA) (n := N) (c := tc) (pehCs E) (by simp [Act.eval, Act.put]) OT.out _ (A2 := some ⟨gT, 0, none⟩) (m := 1) (c2 := 1) [.int .i64 0, .int .i64 0, .int .i64 0] (by simp [Act.eval, Act.put]) (LT.out.rd (by omega)) (by simp [Value.oneCell']) (by simp only [maxLen]; omega) (by omega) (Nat.zero_le _) ?_
        intro AT cT wn o8 k8 hA8
        have OK := hide (OK.out.kept k8 (fun q hq e => OT.out.ne OK.out (by decide) e hq))
        try (have LK := hide (LK.out.kept k8 (fun q hq e => OT.out.ne LK.out (by decide) e hq)))
        have OU := hide (OU.out.kept k8 (fun q hq e => OT.out.ne OU.out (by decide) e hq))
        try (have LU := hide (LU.out.kept k8 (fun q hq e => OT.out.ne LU.out (by decide) e hq)))
        have HT : Hid (∀ q, inB AT q → inB TA q ∨ w1.heap.size ≤ q) := hide (fun q hq => (hA8 q hq).imp id (fun h => by have := KK.out.size; omega))
        have KK := hide (KK.out.step k8 (fun q hq e => .inr (.inr e)))
        have OT := hide o8
        clear o8 k8 hA8 LT
        refine hK.out _ _ (HSg.out _ KK.out) (fun _ => ?_)
        clear hK K
        obtain ⟨wc, rfl⟩ : ∃ x : World, x = wn := ⟨_, rfl⟩
        (try simp only [Act.put, List.getElem_toArray, List.getElem_cons_succ, List.getElem_cons_zero, List.setIfInBounds_toArray, List.set_cons_zero, List.set_cons_succ])
        have b8 := HR.out.blk.kept KK.out (fun e => HP.out e)
        have f2 := b8.frozen 2
        have f3 := b8.frozen 3
        have f4 := b8.frozen 4
        have d2 := b8.cell 2
        have d3 := b8.cell 3
        have d4 := b8.cell 4
        have hpl8 := b8.lt
        clear b8
        refine wpAnyL_any (i := 22) (v := ?_) rfl (by kernel_rfl) (by kernel_rfl) (by kernel_rfl) (fun _ _ _ h => h) (Or.inl ⟨by first | kernel_rfl | rfl, ?_⟩) ?_; rotate_left; focus (intro w hSw; (try dsimp only at hSw); go_simp; try (with_reducible rfl)); (try simp only [Act.put, List.getElem_toArray, List.getElem_cons_succ, List.getElem_cons_zero, List.setIfInBounds_toArray, List.set_cons_zero, List.set_cons_succ])
        refine wpAnyL_any (i := 23) (v := ?_) rfl (by kernel_rfl) (by kernel_rfl) (by kernel_rfl) (fun _ _ _ h => h) (Or.inl ⟨by first | kernel_rfl | rfl, ?_⟩) ?_; rotate_left; focus (intro w hSw; (try dsimp only at hSw); go_simp; try (with_reducible rfl)); (try simp only [Act.put, List.getElem_toArray, List.getElem_cons_succ, List.getElem_cons_zero, List.setIfInBounds_toArray, List.set_cons_zero, List.set_cons_succ])
        refine wpAnyL_ready (rs := [24]) (by kernel_rfl) (by simp) (AllL.last rfl rfl (fun K hK => ?_) AllL.nil)
        go_simp
        refine hK.out _ _ ?_
        clear hK K
        (try simp only [Act.put, List.getElem_toArray, List.getElem_cons_succ, List.getElem_cons_zero, List.setIfInBounds_toArray, List.set_cons_zero, List.set_cons_succ])
        refine wpAnyL_any (i := 25) (v := ?_) rfl (by kernel_rfl) (by kernel_rfl) (by kernel_rfl) (fun _ _ _ h => h) (Or.inl ⟨by first | kernel_rfl | rfl, ?_⟩) ?_; rotate_left; focus (intro w hSw; (try dsimp only at hSw); go_simp; try (with_reducible rfl)); (try simp only [Act.put, List.getElem_toArray, List.getElem_cons_succ, List.getElem_cons_zero, List.setIfInBounds_toArray, List.set_cons_zero, List.set_cons_succ])
        refine wpAnyL_any (i := 26) (v := ?_) rfl (by kernel_rfl) (by kernel_rfl) (by kernel_rfl) (fun _ _ _ h => h) (Or.inl ⟨by first | kernel_rfl | rfl, ?_⟩) ?_; rotate_left; focus (intro w hSw; (try dsimp only at hSw); go_simp; try (with_reducible rfl)); (try simp only [Act.put, List.getElem_toArray, List.getElem_cons_succ, List.getElem_cons_zero, List.setIfInBounds_toArray, List.set_cons_zero, List.set_cons_succ])
        refine wpAnyL_ready (rs := [27]) (by kernel_rfl) (by simp) (AllL.last rfl rfl (fun K hK => ?_) AllL.nil)
        go_simp
        refine hK.out _ _ ?_
        clear hK K
        (try simp only [Act.put, List.getElem_toArray, List.getElem_cons_succ, List.getElem_cons_zero, List.setIfInBounds_toArray, List.set_cons_zero, List.set_cons_succ])
        refine wpAnyL_any (i := 28) (v := ?_) rfl (by kernel_rfl) (by kernel_rfl) (by kernel_rfl) (fun _ _ _ h => h) (Or.inl ⟨by first | kernel_rfl | rfl, ?_⟩) ?_; rotate_left; focus (intro w hSw; (try dsimp only at hSw); go_simp; try (with_reducible rfl)); (try simp only [Act.put, List.getElem_toArray, List.getElem_cons_succ, List.getElem_cons_zero, List.setIfInBounds_toArray, List.set_cons_zero, List.set_cons_succ])
        refine wpAnyL_any (i := 29) (v := ?_) rfl (by kernel_rfl) (by kernel_rfl) (by kernel_rfl) (fun _ _ _ h => h) (Or.inl ⟨by first | kernel_rfl | rfl, ?_⟩) ?_; rotate_left; focus (intro w hSw; (try dsimp only at hSw); go_simp; try (with_reducible rfl)); (try simp only [Act.put, List.getElem_toArray, List.getElem_cons_succ, List.getElem_cons_zero, List.setIfInBounds_toArray, List.set_cons_zero, List.set_cons_succ])
        refine wpAnyL_ready (rs := [30]) (by kernel_rfl) (by simp) (AllL.last rfl rfl (fun K hK => ?_) AllL.nil)
        go_simp
        refine hK.out _ _ ?_
        clear hK K
        (try simp only [Act.put, List.getElem_toArray, List.getElem_cons_succ, List.getElem_cons_zero, List.setIfInBounds_toArray, List.set_cons_zero, List.set_cons_succ])
        refine wpAnyL_done (by kernel_rfl) ?_ _
        (try simp only [Act.put, List.getElem_toArray, List.getElem_cons_succ, List.getElem_cons_zero, List.setIfInBounds_toArray, List.set_cons_zero, List.set_cons_succ])
        refine show _ ∧ _ from ⟨⟨_, _, _, _, _, _, _, _, _, _, _, _, _, _, _, _, _, _, _, _, _, _, _, _, _, _, _, _, rfl⟩, ?_⟩
        exact HFin.out wc AK cK AU cU AT cT KK.out OK.out HK.out OU.out HU.out OT.out HT.out
        trace "LEAF13"
      ·
        go_simp
        obtain ⟨gU, hg⟩ : ∃ g, g = wc.heap.size := ⟨_, rfl⟩
        obtain ⟨wn, hwn⟩ : ∃ x, x = wc.alloc (.cells #[.int .i64 0] 3) := ⟨_, rfl⟩
        have k0 : Keeps (fun _ => False) wc wn := by rw [hwn]; exact (Keeps.refl _ _).alloc _
        have OK := hide (OK.out.kept k0 (fun _ _ h => h))
        have OU := hide (OU.out.kept k0 (fun _ _ h => h))
        have OT := hide (OT.out.kept k0 (fun _ _ h => h))
        try (have LK := hide (LK.out.kept k0 (fun _ _ h => h)))
        try (have LT := hide (LT.out.kept k0 (fun _ _ h => h)))
        have KK := hide (KK.out.step0 k0)
        have LU : Hid (Own wn 0 3 1 (some ⟨gU, 0, none⟩) 1 1 [.int .i64 0]) := hide (by rw [hwn]; exact Own.new_at wc 0 _ #[.int .i64 0] 1 1 gU hg (Nat.zero_le _) (by simp [maxLen]) rfl)
        rw [← hwn, ← hg]
        refine hK.out _ _ (HSg.out _ KK.out) (fun _ => ?_)
        clear hK K hg hwn k0
        obtain ⟨wc, rfl⟩ : ∃ x : World, x = wn := ⟨_, rfl⟩
        (try simp only [Act.put, List.getElem_toArray, List.getElem_cons_succ, List.getElem_cons_zero, List.setIfInBounds_toArray, List.set_cons_zero, List.set_cons_succ])
        refine wpAnyL_ready (rs := [8]) (by kernel_rfl) (by simp) (AllL.cons rfl (fun K hK => ?_) AllL.nil)
        refine step_app _ elemStr (by rfl) (.tmp 86) (.tmp 87) (by rfl) 0 (A := KA) (n := N) (c := kc) (kyCs E) (by simp [Act.eval, Act.put]) OK.out _ (A2 := some ⟨gK, 0, none⟩) (m := 1) (c2 := 1) [.string ⟨#[]⟩] (by simp [Act.eval, Act.put]) (LK.out.rd (by omega)) (by simp [Value.oneCell']) (by simp only [maxLen]; omega) (by omega) (Nat.zero_le _) ?_
        intro AK cK wn o8 k8 hA8
        have OU := hide (OU.out.kept k8 (fun q hq e => OK.out.ne OU.out (by decide) e hq))
        try (have LU := hide (LU.out.kept k8 (fun q hq e => OK.out.ne LU.out (by decide) e hq)))
        have OT := hide (OT.out.kept k8 (fun q hq e => OK.out.ne OT.out (by decide) e hq))
        try (have LT := hide (LT.out.kept k8 (fun q hq e => OK.out.ne LT.out (by decide) e hq)))
        have HK : Hid (∀ q, inB AK q → inB KA q ∨ w1.heap.size ≤ q) := hide (fun q hq => (hA8 q hq).imp id (fun h => by have := KK.out.size; omega))
        have KK := hide (KK.out.step k8 (fun q hq e => .inl e))
        have OK := hide o8
        clear o8 k8 hA8 LK
        refine hK.out _ _ (HSg.out _ KK.out) (fun _ => ?_)
        clear hK K
        obtain ⟨wc, rfl⟩ : ∃ x : World, x = wn := ⟨_, rfl⟩
        (try simp only [Act.put, List.getElem_toArray, List.getElem_cons_succ, List.getElem_cons_zero, List.setIfInBounds_toArray, List.set_cons_zero, List.set_cons_succ])
        refine wpAnyL_ready (rs := [14]) (by kernel_rfl) (by simp) (AllL.cons rfl (fun K hK => ?_) AllL.nil)
        refine step_app _ elemIntP (by rfl) (.tmp 92) (.tmp 93) (by rfl) 0 (A := UA) (n := N) (c := uc) (usCs E) (by simp [Act.eval, Act.put]) OU.out _ (A2 := some ⟨gU, 0, none⟩) (m := 1) (c2 := 1) [.int .i64 0] (by simp [Act.eval, Act.put]) (LU.out.rd (by omega)) (by simp [Value.oneCell']) (by simp only [maxLen]; omega) (by omega) (Nat.zero_le _) ?_
        intro AU cU wn o8 k8 hA8
        have OK := hide (OK.out.kept k8 (fun q hq e => OU.out.ne OK.out (by decide) e hq))
        try (have LK := hide (LK.out.kept k8 (fun q hq e => OU.out.ne LK.out (by decide) e hq)))
        have OT := hide (OT.out.kept k8 (fun q hq e => OU.out.ne OT.out (by decide) e hq))
        try (have LT := hide (LT.out.kept k8 (fun q hq e => OU.out.ne LT.out (by decide) e hq)))
        have HU : Hid (∀ q, inB AU q → inB UA q ∨ w1.heap.size ≤ q) := hide (fun q hq => (hA8 q hq).imp id (fun h => by have := KK.out.size; omega))
        have KK := hide (KK.out.step k8 (fun q hq e => .inr (.inl e)))
        have OU := hide o8
        clear o8 k8 hA8 LU
        refine hK.out _ _ (HSg.out _ KK.out) (fun _ => ?_)
        clear hK K
        obtain ⟨wc, rfl⟩ : ∃ x : World, x = wn := ⟨_, rfl⟩
        (try simp only [Act.put, List.getElem_toArray, List.getElem_cons_succ, List.getElem_cons_zero, List.setIfInBounds_toArray, List.set_cons_zero, List.set_cons_succ])
        refine wpAnyL_ready (rs := [21]) (by kernel_rfl) (by simp) (AllL.cons rfl (fun K hK => ?_) AllL.nil)
        refine step_app _ elemHdP (by rfl) (.tmp 98) (.tmp 100) (by rfl) 0 (A := TA) (n := N) (c := tc) (pehCs E) (by simp [Act.eval, Act.put]) OT.out _ (A2 := some ⟨gT, 0, none⟩) (m := 1) (c2 := 1) [.int .i64 0, .int .i64 0, .int .i64 0] (by simp [Act.eval, Act.put]) (LT.out.rd (by omega)) (by simp [Value.oneCell']) (by simp only [maxLen]; omega) (by omega) (Nat.zero_le _) ?_
        intro AT cT wn o8 k8 hA8
        have OK := hide (OK.out.kept k8 (fun q hq e => OT.out.ne OK.out (by decide) e hq))
        try (have LK := hide (LK.out.kept k8 (fun q hq e => OT.out.ne LK.out (by decide) e hq)))
        have OU := hide (OU.out.kept k8 (fun q hq e => OT.out.ne OU.out (by decide) e hq))
        try (have LU := hide (LU.out.kept k8 (fun q hq e => OT.out.ne LU.out (by decide) e hq)))
        have HT : Hid (∀ q, inB AT q → inB TA q ∨ w1.heap.size ≤ q) := hide (fun q hq => (hA8 q hq).imp id (fun h => by have := KK.out.size; omega))
        have KK := hide (KK.out.step k8 (fun q hq e => .inr (.inr e)))
        have OT := hide o8
        clear o8 k8 hA8 LT
        refine hK.out _ _ (HSg.out _ KK.out) (fun _ => ?_)
        clear hK K
        obtain ⟨wc, rfl⟩ : ∃ x : World, x = wn := ⟨_, rfl⟩
        (try simp only [Act.put, List.getElem_toArray, List.getElem_cons_succ, List.getElem_cons_zero, List.setIfInBounds_toArray, List.set_cons_zero, List.set_cons_succ])
        have b8 := HR.out.blk.kept KK.out (fun e => HP.out e)
        have f2 := b8.frozen 2
        have f3 := b8.frozen 3
        have f4 := b8.frozen 4
        have d2 := b8.cell 2
        have d3 := b8.cell 3
        have d4 := b8.cell 4
        have hpl8 := b8.lt
        clear b8
        refine wpAnyL_any (i := 22) (v := ?_) rfl (by kernel_rfl) (by kernel_rfl) (by kernel_rfl) (fun _ _ _ h => h) (Or.inl ⟨by first | kernel_rfl | rfl, ?_⟩) ?_; rotate_left; focus (intro w hSw; (try dsimp only at hSw); go_simp; try (with_reducible rfl)); (try simp only [Act.put, List.getElem_toArray, List.getElem_cons_succ, List.getElem_cons_zero, List.setIfInBounds_toArray, List.set_cons_zero, List.set_cons_succ])
        refine wpAnyL_any (i := 23) (v := ?_) rfl (by kernel_rfl) (by kernel_rfl) (by kernel_rfl) (fun _ _ _ h => h) (Or.inl ⟨by first | kernel_rfl | rfl, ?_⟩) ?_; rotate_left; focus (intro w hSw; (try dsimp only at hSw); go_simp; try (with_reducible rfl)); (try simp only [Act.put, List.getElem_toArray, List.getElem_cons_succ, List.getElem_cons_zero, List.setIfInBounds_toArray, List.set_cons_zero, List.set_cons_succ])
        refine wpAnyL_ready (rs := [24]) (by kernel_rfl) (by simp) (AllL.last rfl rfl (fun K hK => ?_) AllL.nil)
        go_simp
        refine hK.out _ _ ?_
        clear hK K
        (try simp only [Act.put, List.getElem_toArray, List.getElem_cons_succ, List.getElem_cons_zero, List.setIfInBounds_toArray, List.set_cons_zero, List.set_cons_succ])
        refine wpAnyL_any (i := 25) (v := ?_) rfl (by kernel_rfl) (by kernel_rfl) (by kernel_rfl) (fun _ _ _ h => h) (Or.inl ⟨by first | kernel_rfl | rfl, ?_⟩) ?_; rotate_left; focus (intro w hSw; (try dsimp only at hSw); go_simp; try (with_reducible rfl)); (try simp only [Act.put, List.getElem_toArray, List.getElem_cons_succ, List.getElem_cons_zero, List.setIfInBounds_toArray, List.set_cons_zero, List.set_cons_succ])
        refine wpAnyL_any (i := 26) (v := ?_) rfl (by kernel_rfl) (by kernel_rfl) (by kernel_rfl) (fun _ _ _ h => h) (Or.inl ⟨by first | kernel_rfl | rfl, ?_⟩) ?_; rotate_left; focus (intro w hSw; (try dsimp only at hSw); go_simp; try (with_reducible rfl)); (try simp only [Act.put, List.getElem_toArray, List.getElem_cons_succ, List.getElem_cons_zero, List.setIfInBounds_toArray, List.set_cons_zero, List.set_cons_succ])
        refine wpAnyL_ready (rs := [27]) (by kernel_rfl) (by simp) (AllL.last rfl rfl (fun K hK => ?_) AllL.nil)
        go_simp
        refine hK.out _ _ ?_
        clear hK K
        (try simp only [Act.put, List.getElem_toArray, List.getElem_cons_succ, List.getElem_cons_zero, List.setIfInBounds_toArray, List.set_cons_zero, List.set_cons_succ])
        refine wpAnyL_any (i := 28) (v := ?_) rfl (by kernel_rfl) (by kernel_rfl) (by kernel_rfl) (fun _ _ _ h => h) (Or.inl ⟨by first | kernel_rfl | rfl, ?_⟩) ?_; rotate_left; focus (intro w hSw; (try dsimp only at hSw); go_simp; try (with_reducible rfl)); (try simp only [Act.put, List.getElem_toArray, List.getElem_cons_succ, List.getElem_cons_zero, List.setIfInBounds_toArray, List.set_cons_zero, List.set_cons_succ])
        refine wpAnyL_any (i := 29) (v := ?_) rfl (by kernel_rfl) (by kernel_rfl) (by kernel_rfl) (fun _ _ _ h => h) (Or.inl ⟨by first | kernel_rfl | rfl, ?_⟩) ?_; rotate_left; focus (intro w hSw; (try dsimp only at hSw); go_simp; try (with_reducible rfl)); (try simp only [Act.put, List.getElem_toArray, List.getElem_cons_succ, List.getElem_cons_zero, List.setIfInBounds_toArray, List.set_cons_zero, List.set_cons_succ])
        refine wpAnyL_ready (rs := [30]) (by kernel_rfl) (by simp) (AllL.last rfl rfl (fun K hK => ?_) AllL.nil)
        go_simp
        refine hK.out _ _ ?_
        clear hK K
        (try simp only [Act.put, List.getElem_toArray, List.getElem_cons_succ, List.getElem_cons_zero, List.setIfInBounds_toArray, List.set_cons_zero, List.set_cons_succ])
        refine wpAnyL_done (by kernel_rfl) ?_ _
        (try simp only [Act.put, List.getElem_toArray, List.getElem_cons_succ, List.getElem_cons_zero, List.setIfInBounds_toArray, List.set_cons_zero, List.set_cons_succ])
        refine show _ ∧ _ from ⟨⟨_, _, _, _, _, _, _, _, _, _, _, _, _, _, _, _, _, _, _, _, _, _, _, _, _, _, _, _, rfl⟩, ?_⟩
        exact HFin.out wc AK cK AU cU AT cT KK.out OK.out HK.out OU.out HU.out OT.out HT.out
        trace "LEAF14"
    ·
      go_simp
      obtain ⟨gU, hg⟩ : ∃ g, g = wc.heap.size := ⟨_, rfl⟩
      obtain ⟨wn, hwn⟩ : ∃ x, x = wc.alloc (.cells #[.int .i64 0] 3) := ⟨_, rfl⟩
      have k0 : Keeps (fun _ => False) wc wn := by rw [hwn]; exact (Keeps.refl _ _).alloc _
      have OK := hide (OK.out.kept k0 (fun _ _ h => h))
      have OU := hide (OU.out.kept k0 (fun _ _ h => h))
      have OT := hide (OT.out.kept k0 (fun _ _ h => h))
      try (have LK := hide (LK.out.kept k0 (fun _ _ h => h)))
      try (have LT := hide (LT.out.kept k0 (fun _ _ h => h)))
      have KK := hide (KK.out.step0 k0)
      have LU : Hid (Own wn 0 3 1 (some ⟨gU, 0, none⟩) 1 1 [.int .i64 0]) := hide (by rw [hwn]; exact Own.new_at wc 0 _ #[.int .i64 0] 1 1 gU hg (Nat.zero_le _) (by simp [maxLen]) rfl)
      rw [← hwn, ← hg]
      refine hK.out _ _ (HSg.out _ KK.out) (fun _ => ?_)
      clear hK K hg hwn k0
      obtain ⟨wc, rfl⟩ : ∃ x : World, x = wn := ⟨_, rfl⟩
      (try simp only [Act.put, List.getElem_toArray, List.getElem_cons_succ, List.getElem_cons_zero, List.setIfInBounds_toArray, List.set_cons_zero, List.set_cons_succ])
      refine wpAnyL_ready (rs := [7]) (by kernel_rfl) (by simp) (AllL.cons rfl (fun K hK => ?_) AllL.nil)
      go_simp
      obtain ⟨gK, hg⟩ : ∃ g, g = wc.heap.size := ⟨_, rfl⟩
      obtain ⟨wn, hwn⟩ : ∃ x, x = wc.alloc (.cells #[.string ⟨#[]⟩] 9) := ⟨_, rfl⟩
      have k0 : Keeps (fun _ => False) wc wn := by rw [hwn]; exact (Keeps.refl _ _).alloc _
      have OK := hide (OK.out.kept k0 (fun _ _ h => h))
      have OU := hide (OU.out.kept k0 (fun _ _ h => h))
      have OT := hide (OT.out.kept k0 (fun _ _ h => h))
      try (have LU := hide (LU.out.kept k0 (fun _ _ h => h)))
      try (have LT := hide (LT.out.kept k0 (fun _ _ h => h)))
      have KK := hide (KK.out.step0 k0)
      have LK : Hid (Own wn 0 9 1 (some ⟨gK, 0, none⟩) 1 1 [.string ⟨#[]⟩]) := hide (by rw [hwn]; exact Own.new_at wc 0 _ #[.string ⟨#[]⟩] 1 1 gK hg (Nat.zero_le _) (by simp [maxLen]) rfl)
      rw [← hwn, ← hg]
      refine hK.out _ _ (HSg.out _ KK.out) (fun _ => ?_)
      clear hK K hg hwn k0
      obtain ⟨wc, rfl⟩ : ∃ x : World, x = wn := ⟨_, rfl⟩
      (try simp only [Act.put, List.getElem_toArray, List.getElem_cons_succ, List.getElem_cons_zero, List.setIfInBounds_toArray, List.set_cons_zero, List.set_cons_succ])
      refine wpAnyL_ready (rs := [8]) (by kernel_rfl) (by simp) (AllL.cons rfl (fun K hK => ?_) AllL.nil)
      refine step_app _ elemStr (by rfl) (.tmp 86) (.tmp 87) (by rfl) 0 (A := KA) (n := N) (c := kc) (kyCs E) (by simp [Act.eval, Act.put]) OK.out _ (A2 := some ⟨gK, 0, none⟩) (m := 1) (c2 := 1) [.string ⟨#[]⟩] (by simp [Act.eval, Act.put]) (LK.out.rd (by omega)) (by simp [Value.oneCell']) (by simp only [maxLen]; omega) (by omega) (Nat.zero_le _) ?_
      intro AK cK wn o8 k8 hA8
      have OU := hide (OU.out.kept k8 (fun q hq e => OK.out.ne OU.out (by decide) e hq))
      try (have LU := hide (LU.out.kept k8 (fun q hq e => OK.out.ne LU.out (by decide) e hq)))
      have OT := hide (OT.out.kept k8 (fun q hq e => OK.out.ne OT.out (by decide) e hq))
      try (have LT := hide (LT.out.kept k8 (fun q hq e => OK.out.ne LT.out (by decide) e hq)))
      have HK : Hid (∀ q, inB AK q → inB KA q ∨ w1.heap.size ≤ q) := hide (fun q hq => (hA8 q hq).imp id (fun h => by have := KK.out.size; omega))
      have KK := hide (KK.out.step k8 (fun q hq e => .inl e))
      have OK := hide o8
      clear o8 k8 hA8 LK
      refine hK.out _ _ (HSg.out _ KK.out) (fun _ => ?_)
      clear hK K
      obtain ⟨wc, rfl⟩ : ∃ x : World, x = wn := ⟨_, rfl⟩
      (try simp only [Act.put, List.getElem_toArray, List.getElem_cons_succ, List.getElem_cons_zero, List.setIfInBounds_toArray, List.set_cons_zero, List.set_cons_succ])
      refine wpAnyL_ready (rs := [14]) (by kernel_rfl) (by simp) (AllL.cons rfl (fun K hK => ?_) AllL.nil)
      refine step_app _ elemIntP (by rfl) (.tmp 92) (.tmp 93) (by rfl) 0 (A := UA) (n := N) (c := uc) (usCs E) (by simp [Act.eval, Act.put]) OU.out _ (A2 := some ⟨gU, 0, none⟩) (m := 1) (c2 := 1) [.int .i64 0] (by simp [Act.eval, Act.put]) (LU.out.rd (by omega)) (by simp [Value.oneCell']) (by simp only [maxLen]; omega) (by omega) (Nat.zero_le _) ?_
      intro AU cU wn o8 k8 hA8
      have OK := hide (OK.out.kept k8 (fun q hq e => OU.out.ne OK.out (by decide) e hq))
      try (have LK := hide (LK.out.kept k8 (fun q hq e => OU.out.ne LK.out (by decide) e hq)))
      have OT := hide (OT.out.kept k8 (fun q hq e => OU.out.ne OT.out (by decide) e hq))
      try (have LT := hide (LT.out.kept k8 (fun q hq e => OU.out.ne LT.out (by decide) e hq)))
      have HU : Hid (∀ q, inB AU q → inB UA q ∨ w1.heap.size ≤ q) := hide (fun q hq => (hA8 q hq).imp id (fun h => by have := KK.out.size; omega))
      have KK := hide (KK.out.step k8 (fun q hq e => .inr (.inl e)))
      have OU := hide o8
      clear o8 k8 hA8 LU
      refine hK.out _ _ (HSg.out _ KK.out) (fun _ => ?_)
      clear hK K
      obtain ⟨wc, rfl⟩ : ∃ x : World, x = wn := ⟨_, rfl⟩
      (try simp only [Act.put, List.getElem_toArray, List.getElem_cons_succ, List.getElem_cons_zero, List.setIfInBounds_toArray, List.set_cons_zero, List.set_cons_succ])
      refine wpAnyL_ready (rs := [21]) (by kernel_rfl) (by simp) (AllL.cons rfl (fun K hK => ?_) AllL.nil)
      refine step_app _ elemHdP (by rfl) (.tmp 98) (.tmp 100) (by rfl) 0 (A := TA) (n := N) (c := tc) (pehCs E) (by simp [Act.eval, Act.put]) OT.out _ (A2 := some ⟨gT, 0, none⟩) (m := 1) (c2 := 1) [.int .i64 0, .int .i64 0, .int .i64 0] (by simp [Act.eval, Act.put]) (LT.out.rd (by omega)) (by simp [Value.oneCell']) (by simp only [maxLen]; omega) (by omega) (Nat.zero_le _) ?_
      intro AT cT wn o8 k8 hA8
      have OK := hide (OK.out.kept k8 (fun q hq e => OT.out.ne OK.out (by decide) e hq))
      try (have LK := hide (LK.out.kept k8 (fun q hq e => OT.out.ne LK.out (by decide) e hq)))
      have OU := hide (OU.out.kept k8 (fun q hq e => OT.out.ne OU.out (by decide) e hq))
      try (have LU := hide (LU.out.kept k8 (fun q hq e => OT.out.ne LU.out (by decide) e hq)))
      have HT : Hid (∀ q, inB AT q → inB TA q ∨ w1.heap.size ≤ q) := hide (fun q hq => (hA8 q hq).imp id (fun h => by have := KK.out.size; omega))
      have KK := hide (KK.out.step k8 (fun q hq e => .inr (.inr e)))
      have OT := hide o8
      clear o8 k8 hA8 LT
      refine hK.out _ _ (HSg.out _ KK.out) (fun _ => ?_)
      clear hK K
      obtain ⟨wc, rfl⟩ : ∃ x : World, x = wn := ⟨_, rfl⟩
      (try simp only [Act.put, List.getElem_toArray, List.getElem_cons_succ, List.getElem_cons_zero, List.setIfInBounds_toArray, List.set_cons_zero, List.set_cons_succ])
      have b8 := HR.out.blk.kept KK.out (fun e => HP.out e)
      have f2 := b8.frozen 2
      have f3 := b8.frozen 3
      have f4 := b8.frozen 4
      have d2 := b8.cell 2
      have d3 := b8.cell 3
      have d4 := b8.cell 4
      have hpl8 := b8.lt
      clear b8
      refine wpAnyL_any (i := 22) (v := ?_) rfl (by kernel_rfl) (by kernel_rfl) (by kernel_rfl) (fun _ _ _ h => h) (Or.inl ⟨by first | kernel_rfl | rfl, ?_⟩) ?_; rotate_left; focus (intro w hSw; (try dsimp only at hSw); go_simp; try (with_reducible rfl)); (try simp only [Act.put, List.getElem_toArray, List.getElem_cons_succ, List.getElem_cons_zero, List.setIfInBounds_toArray, List.set_cons_zero, List.set_cons_succ])
      refine wpAnyL_any (i := 23) (v := ?_) rfl (by kernel_rfl) (by kernel_rfl) (by kernel_rfl) (fun _ _ _ h => h) (Or.inl ⟨by first | kernel_rfl | rfl, ?_⟩) ?_; rotate_left; focus (intro w hSw; (try dsimp only at hSw); go_simp; try (with_reducible rfl)); (try simp only [Act.put, List.getElem_toArray, List.getElem_cons_succ, List.getElem_cons_zero, List.setIfInBounds_toArray, List.set_cons_zero, List.set_cons_succ])
      refine wpAnyL_ready (rs := [24]) (by kernel_rfl) (by simp) (AllL.last rfl rfl (fun K hK => ?_) AllL.nil)
      go_simp
      refine hK.out _ _ ?_
      clear hK K
      (try simp only [Act.put, List.getElem_toArray, List.getElem_cons_succ, List.getElem_cons_zero, List.setIfInBounds_toArray, List.set_cons_zero, List.set_cons_succ])
      refine wpAnyL_any (i := 25) (v := ?_) rfl (by kernel_rfl) (by kernel_rfl) (by kernel_rfl) (fun _ _ _ h => h) (Or.inl ⟨by first | kernel_rfl | rfl, ?_⟩) ?_; rotate_left; focus (intro w hSw; (try dsimp only at hSw); go_simp; try (with_reducible rfl)); (try simp only [Act.put, List.getElem_toArray, List.getElem_cons_succ, List.getElem_cons_zero, List.setIfInBounds_toArray, List.set_cons_zero, List.set_cons_succ])
      refine wpAnyL_any (i := 26) (v := ?_) rfl (by kernel_rfl) (by kernel_rfl) (by kernel_rfl) (fun _ _ _ h => h) (Or.inl ⟨by first | kernel_rfl | rfl, ?_⟩) ?_; rotate_left; focus (intro w hSw; (try dsimp only at hSw); go_simp; try (with_reducible rfl)); (try simp only [Act.put, List.getElem_toArray, List.getElem_cons_succ, List.getElem_cons_zero, List.setIfInBounds_toArray, List.set_cons_zero, List.set_cons_succ])
      refine wpAnyL_ready (rs := [27]) (by kernel_rfl) (by simp) (AllL.last rfl rfl (fun K hK => ?_) AllL.nil)
      go_simp
      refine hK.out _ _ ?_
      clear hK K
      (try simp only [Act.put, List.getElem_toArray, List.getElem_cons_succ, List.getElem_cons_zero, List.setIfInBounds_toArray, List.set_cons_zero, List.set_cons_succ])
      refine wpAnyL_any (i := 28) (v := ?_) rfl (by kernel_rfl) (by kernel_rfl) (by kernel_rfl) (fun _ _ _ h => h) (Or.inl ⟨by first | kernel_rfl | rfl, ?_⟩) ?_; rotate_left; focus (intro w hSw; (try dsimp only at hSw); go_simp; try (with_reducible rfl)); (try simp only [Act.put, List.getElem_toArray, List.getElem_cons_succ, List.getElem_cons_zero, List.setIfInBounds_toArray, List.set_cons_zero, List.set_cons_succ])
      refine wpAnyL_any (i := 29) (v := ?_) rfl (by kernel_rfl) (by kernel_rfl) (by kernel_rfl) (fun _ _ _ h => h) (Or.inl ⟨by first | kernel_rfl | rfl, ?_⟩) ?_; rotate_left; focus (intro w hSw; (try dsimp only at hSw); go_simp; try (with_reducible rfl)); (try simp only [Act.put, List.getElem_toArray, List.getElem_cons_succ, List.getElem_cons_zero, List.setIfInBounds_toArray, List.set_cons_zero, List.set_cons_succ])
      refine wpAnyL_ready (rs := [30]) (by kernel_rfl) (by simp) (AllL.last rfl rfl (fun K hK => ?_) AllL.nil)
      go_simp
      refine hK.out _ _ ?_
      clear hK K
      (try simp only [Act.put, List.getElem_toArray, List.getElem_cons_succ, List.getElem_cons_zero, List.setIfInBounds_toArray, List.set_cons_zero, List.set_cons_succ])
      refine wpAnyL_done (by kernel_rfl) ?_ _
      (try simp only [Act.put, List.getElem_toArray, List.getElem_cons_succ, List.getElem_cons_zero, List.setIfInBounds_toArray, List.set_cons_zero, List.set_cons_succ])
      refine show _ ∧ _ from ⟨⟨_, _, _, _, _, _, _, _, _, _, _, _, _, _, _, _, _, _, _, _, _, _, _, _, _, _, _, _, rfl⟩, ?_⟩
      exact HFin.out wc AK cK AU cU AT cT KK.out OK.out HK.out OU.out HU.out OT.out HT.out
      trace "LEAF15"
end
end poolGrow
end Go.Proofs.Ytidobhflijdccaa
