
/-
  ExactSteps: what stands between two rounds, and the entry of a round. No conditions beyond those of the statement.
-/
import Derived.Test.YtmbgnekilgobaaaFe
import Derived.Deep.CutRange
import Derived.Deep.CutBlock
set_option linter.unusedVariables false
set_option linter.unusedSimpArgs false
namespace Go.Proofs.Ytmbgnekilgobaaa
open Go.RowKit
namespace exactSteps
/-- the code's region, block, by number -/
def findReg (q : Nat) : Code → Option Code
  | .region id ops b => if id = q then some (.region id ops b) else none
  | .loop c => findReg q c
  | .seq a b => match findReg q a with
    | some c => some c
    | none => findReg q b
  | .block _ c => findReg q c
  | .scope c => findReg q c
  | .cond _ a b => match findReg q a with
    | some c => some c
    | none => findReg q b
  | _ => none
def findBlk (q : Nat) : Code → Option Code
  | .loop c => findBlk q c
  | .seq a b => match findBlk q a with
    | some c => some c
    | none => findBlk q b
  | .block id c => if id = q then some (.block id c) else findBlk q c
  | .scope c => findBlk q c
  | .cond _ a b => match findBlk q a with
    | some c => some c
    | none => findBlk q b
  | _ => none
theorem Two.new (w : World) (G : Nat → Prop) (N : Int) (s q : Nat) (hs : s = w.heap.size) (hq : q = w.heap.size + 1) (hG : ∀ k, G k → k < w.heap.size) (h0 : 0 ≤ N) (h1 : N ≤ 32) :
    Two ((w.alloc (.cells #[.int .i64 N, .slice none 0 0] 93)).alloc (.cells #[.int .i64 N, .slice none 0 0] 80)) G s q N [] [] :=
  ⟨none, 0, 0, none, 0, 0, (Blk.new_at _ _ _ _ hs).alloc _, Blk.new_at _ _ _ _ (by rw [hq]; simp), Own.nil _ _ _ _, Own.nil _ _ _ _, fun k h => absurd h (inB_none k), fun k h => absurd h (inB_none k), fun k h => absurd h (inB_none k), fun e => by have := hG s e; omega, fun e => by have := hG q e; omega, List.Pairwise.nil, (fun x hx => by cases hx), by omega, List.Pairwise.nil, (fun x hx => by cases hx), by omega, h1⟩
/-- within a round: the entry y stands in block gy -/
def CutZ (w : World) (B g gp gy s q : Nat) (N : Int) (x : Ln) (l : List Ln) (wx : World) : Prop :=
  ∃ y : Ln, Blk wx gy 53 (lnC y).toArray ∧ (U y.lo ∧ U y.hi) ∧ Two wx (fun k => k < B ∨ k = g ∨ k = gp ∨ k = gy) s q N l l ∧ Blk wx gp 53 (lnC x).toArray ∧ IsDeck wx B g ∧ Keeps (fun k => ¬ k < B) w wx ∧ B ≤ gy ∧ gy ≠ g ∧ gy ≠ gp
def CutY (w : World) (B g gp s q : Nat) (N : Int) (x : Ln) (l : List Ln) (v : Int) (a b : Value) (wx : World) : Prop :=
  ∃ gy, a = .int .i64 v ∧ b = .pointer (some ⟨gy, 0, none⟩) ∧ CutZ w B g gp gy s q N x l wx
def CutD (w : World) (B g gp gy s q : Nat) (N : Int) (x : Ln) (wx : World) : Prop := ∃ l, CutZ w B g gp gy s q N x l wx
theorem CutZ.store {w wx : World} {B g gp gy s q : Nat} {N : Int} {x : Ln} {l : List Ln} (h : CutZ w B g gp gy s q N x l wx) (y : Ln) (hy : U y.lo ∧ U y.hi) (w' : World) (k : Keeps (· = gy) wx w') (hb : Blk w' gy 53 (lnC y).toArray) : CutZ w B g gp gy s q N x l w' := by
  obtain ⟨y0, h1, h2, h3, h4, h5, h6, h7, h8, h9⟩ := h
  exact ⟨y, hb, hy, h3.kept k (fun k e => by omega), h4.kept k (fun e => h9 e.symm), h5.kept k (fun e => h8 e.symm) (fun b hb e => by omega), h6.trans (k.weak (fun q _ e => by omega)), h7, h8, h9⟩
theorem CutY.mkA {w wo w4 : World} {B g gp s q : Nat} {N v : Int} {x y : Ln} {l : List Ln} (hT : Two wo (fun k => k < B ∨ k = g ∨ k = gp) s q N l l) (hP : Blk wo gp 53 (lnC x).toArray) (hK : Keeps (fun k => ¬ k < B) w wo) (hB : B ≤ gp ∧ gp < g) (hw : B ≤ w.heap.size)
    (d4 : IsDeck w4 B g) (k4 : Keeps (· = g) wo w4) (hy : U y.lo ∧ U y.hi) : CutY w B g gp s q N x l v (.int .i64 v) (.pointer (some ⟨w4.heap.size, 0, none⟩)) (w4.alloc (.cells (lnC y).toArray 53)) := by
  have hg := d4.lt
  have k5 := k4.alloc (.cells (lnC y).toArray 53)
  have hsz : (w4.alloc (.cells (lnC y).toArray 53)).heap.size = w4.heap.size + 1 := by simp
  have h1 := hP.lt
  have h2 := k4.size
  have h3 := hK.size
  exact ⟨_, rfl, rfl, y, Blk.new _ _ _, hy, (hT.grow k5 (fun k e => .inr (.inl e))).less (fun k e => by omega), hP.kept k5 (by omega), d4.kept ((Keeps.refl (fun _ => False) _).alloc _) (fun h => h) (fun _ _ h => h), hK.trans (k5.weak (fun q _ e => by omega)), by omega, by omega, by omega⟩
theorem CutY.mkB {w wo w4 : World} {B g gp s q gy : Nat} {N v : Int} {x y : Ln} {l : List Ln} (hT : Two wo (fun k => k < B ∨ k = g ∨ k = gp) s q N l l) (hP : Blk wo gp 53 (lnC x).toArray) (hK : Keeps (fun k => ¬ k < B) w wo) (hB : B ≤ gp ∧ gp < g) (hw : B ≤ w.heap.size)
    (d4 : IsDeck w4 B g) (dg : g < wo.heap.size) (k4 : Keeps (· = g) wo w4) (hgy : gy = wo.heap.size) (z4 : Blk w4 gy 53 (lnC en0).toArray) (hy : U y.lo ∧ U y.hi) : CutY w B g gp s q N x l v (.int .i64 v) (.pointer (some ⟨gy, 0, none⟩)) (((w4.setCell ⟨gy, 0, none⟩ (.string y.key)).setCell ⟨gy, 1, none⟩ (.int .u64 y.lo)).setCell ⟨gy, 2, none⟩ (.int .u64 y.hi)) := by
  obtain ⟨hs6, ks6⟩ := set_en z4 y
  have k5 := k4.step (S' := (· = gy)) ks6 (fun q h e => by omega)
  have h1 := hP.lt
  have h2 := z4.lt
  have h3 := hK.size
  have h4 := ks6.size
  exact ⟨_, rfl, rfl, y, hs6, hy, (hT.grow k5 (fun k e => .inr (.inl e))).less (fun k e => by omega), hP.kept k5 (by omega), d4.kept ks6 (by omega) (fun b hb e => by omega), hK.trans (k5.weak (fun q _ e => by omega)), by omega, by omega, by omega⟩
theorem then_false {K : Act → World → Prop} {Q' : Exit → Act → World → Prop} : ∀ e a w, Exit.then K (fun _ _ _ => False) e a w → Exit.then K Q' e a w := by
  intro e a w h
  cases e <;> first | exact h | exact h.elim
noncomputable def rg9 : Code := ((Try.f14.body.bind (findReg 9)).getD .skip)
set_option maxRecDepth 1000000 in
set_option maxHeartbeats 4000000 in
theorem reg9 (w wo : World) (B g gp s q n2 c2 i b2 off2 : Nat) (N v : Int) (x : Ln) (l : List Ln) (s0 s1 s3 s4 s5 s6 s7 s8 s9 s10 s11 s12 s13 s14 s17 s18 s19 s20 s21 s22 s23 s24 s25 s26 s27 s28 s29 s30 s31 s32 s33 s34 s35 s36 s37 s38 s39 s40 s41 s42 s43 s44 s45 s46 s47 s48 s49 s50 s51 s52 s53 s54 s55 s56 s57 s58 s59 s60 s61 s62 s63 s64 s65 s66 s67 s68 s69 s70 s71 s72 s73 s74 s75 s76 s77 s78 s79 s80 s81 s82 s83 s84 s85 s86 s87 s88 s89 s90 s91 s92 s93 s94 s95 s96 s97 s98 s99 s100 s101 s102 s103 s104 s105 s106 s107 s108 s109 s110 s111 s112 s113 s114 s115 s116 s117 s118 s119 s120 s121 s122 s123 s124 s125 s126 s127 s128 s129 s130 s131 s132 s133 s134 s135 s136 s137 s138 s139 s140 s141 s142 s143 s144 s145 s146 s147 s148 s149 s150 s151 s152 s153 s154 s155 s156 s157 s158 s159 s160 s161 s162 s163 s164 s165 s166 s167 s168 s169 s170 s171 s172 s173 s174 s175 s176 s177 s178 s179 s180 s181 s182 s183 s184 s185 s186 s187 s188 s189 s190 s191 s192 s193 s194 s195 s196 s197 s198 : Value)
    (J K : Act → World → Prop)
    (hJ : ∀ a' w', (∃ u17 u18 u57 u58 u59 u60 u61 u62 u63 u64 u65 u66 u67 u68 u69 u70 u71 u72 u73 u74 u75 u76 u77 u78 u79 u80 u81 u82 u83 u84 u85 u86 u87 u88 u89 u90 u91 u92 u93 u94 u95 u96 u97 u98 u99 u100 u101 u102 u103 u104 u105 u106 u107 u108 u109 u110 u111 u112 u113 u114 u115 u116 u117 u118 u119 u120 u121 u122 u123 u124 u125 u126 u127 u128 u129 u130 u131 u132 u133 u134 u135 u136 u137 u138 u139 u140 u141 u142 u143 u144 u145 u146 u147 u148 u149 u150 u151 u152 u153 u154 u155 u156 u157 u158 u159 u160 u161 u162 u163 u164 u165 u166 u167 u168 u169 u170 u171 u172 u173 u174 u175 u176 u177 u178 u179 u180 u181 u182 u183 u184 u185 u186 u187 u188 u189 u190 u191 u192 u193 u194 u195 u196 u197, CutY w B g gp s q N x l v u17 u18 w' ∧ a' = ⟨#[s0, s1, .slice (some ⟨b2, off2, none⟩) n2 c2, s3, s4, s5, s6, s7, s8, s9, s10, s11, s12, s13, s14, .pointer (some ⟨g, 0, none⟩), .int .i64 (i : Int), u17, u18, s19, s20, s21, s22, s23, s24, s25, s26, s27, s28, s29, s30, s31, s32, s33, s34, s35, s36, s37, s38, s39, s40, s41, s42, s43, s44, s45, s46, s47, s48, s49, s50, s51, s52, s53, s54, s55, s56, u57, u58, u59, u60, u61, u62, u63, u64, u65, u66, u67, u68, u69, u70, u71, u72, u73, u74, u75, u76, u77, u78, u79, u80, u81, u82, u83, u84, u85, u86, u87, u88, u89, u90, u91, u92, u93, u94, u95, u96, u97, u98, u99, u100, u101, u102, u103, u104, u105, u106, u107, u108, u109, u110, u111, u112, u113, u114, u115, u116, u117, u118, u119, u120, u121, u122, u123, u124, u125, u126, u127, u128, u129, u130, u131, u132, u133, u134, u135, u136, u137, u138, u139, u140, u141, u142, u143, u144, u145, u146, u147, u148, u149, u150, u151, u152, u153, u154, u155, u156, u157, u158, u159, u160, u161, u162, u163, u164, u165, u166, u167, u168, u169, u170, u171, u172, u173, u174, u175, u176, u177, u178, u179, u180, u181, u182, u183, u184, u185, u186, u187, u188, u189, u190, u191, u192, u193, u194, u195, u196, u197, s198], []⟩) → J a' w') (hM : ∀ a' w', Met J a' w' → K a' w')
    (HT : Hid (Two wo (fun k => k < B ∨ k = g ∨ k = gp) s q N l l)) (HP : Hid (Blk wo gp 53 (lnC x).toArray)) (HD : Hid (IsDeck wo B g)) (HK : Hid (Keeps (fun k => ¬ k < B) w wo)) (hgB : B ≤ gp ∧ gp < g) (HB : Hid (B = w.heap.size))
    (cv0 : wo.cell? ⟨b2, off2 + i, none⟩ = some (.int .i64 v)) (hb2 : b2 < B) (hb2l : b2 < wo.heap.size) (hb2l' : b2 < wo.heap.size + 1) (hi3 : (i : Int) < (n2 : Int)) (hl1 : i < n2) (hl2 : i < 60) (hvb : -9223372036854775808 ≤ v ∧ v < 9223372036854775808) :
    Code.wp Try.prog rg9 (Exit.then K (fun _ _ _ => False)) ⟨#[s0, s1, .slice (some ⟨b2, off2, none⟩) n2 c2, s3, s4, s5, s6, s7, s8, s9, s10, s11, s12, s13, s14, .pointer (some ⟨g, 0, none⟩), .int .i64 (i : Int), s17, s18, s19, s20, s21, s22, s23, s24, s25, s26, s27, s28, s29, s30, s31, s32, s33, s34, s35, s36, s37, s38, s39, s40, s41, s42, s43, s44, s45, s46, s47, s48, s49, s50, s51, s52, s53, s54, s55, s56, s57, s58, s59, s60, s61, s62, s63, s64, s65, s66, s67, s68, s69, s70, s71, s72, s73, s74, s75, s76, s77, s78, s79, s80, s81, s82, s83, s84, s85, s86, s87, s88, s89, s90, s91, s92, s93, s94, s95, s96, s97, s98, s99, s100, s101, s102, s103, s104, s105, s106, s107, s108, s109, s110, s111, s112, s113, s114, s115, s116, s117, s118, s119, s120, s121, s122, s123, s124, s125, s126, s127, s128, s129, s130, s131, s132, s133, s134, s135, s136, s137, s138, s139, s140, s141, s142, s143, s144, s145, s146, s147, s148, s149, s150, s151, s152, s153, s154, s155, s156, s157, s158, s159, s160, s161, s162, s163, s164, s165, s166, s167, s168, s169, s170, s171, s172, s173, s174, s175, s176, s177, s178, s179, s180, s181, s182, s183, s184, s185, s186, s187, s188, s189, s190, s191, s192, s193, s194, s195, s196, s197, s198], []⟩ wo := by
  conv => arg 2; whnf
  dsimp only
  go_region_with (first
    | (go_at_call 37; refine (entry_any B g wo.drew HD.out.drew).mono ?_; rintro e w4 ⟨y, rfl, y0, y1, y2, y3, y4, y5, d4, k4⟩; have D4 := hide d4; have K4 : Hid (Keeps (· = g) wo w4) := hide (((Keeps.refl (· = g) wo).drew).trans k4); have cv4 := K4.out.cell_some cv0 (by dsimp only; omega); have hb4 : b2 < w4.heap.size := (by have := K4.out.size; omega); clear d4 k4)
    | (go_at_call 37; refine (entry_any B g (wo.drew.alloc (.cells #[.string ⟨#[]⟩, .int .u64 0, .int .u64 0] 53)) (HD.out.drew.kept ((Keeps.refl (fun _ => False) _).alloc _) (fun h => h) (fun _ _ h => h))).mono ?_; rintro e w4 ⟨y, rfl, y0, y1, y2, y3, y4, y5, d4, k4⟩; have D4 := hide d4; have Z4 := (Blk.new_at wo.drew 53 (lnC en0).toArray wo.heap.size rfl).kept k4 (by have := HD.out.lt; omega); have K4 : Hid (Keeps (· = g) wo w4) := hide ((((Keeps.refl (· = g) wo).drew).alloc _).trans k4); have cv4 := K4.out.cell_some cv0 (by dsimp only; omega); have hb4 : b2 < w4.heap.size := (by have := K4.out.size; omega); obtain ⟨z40, z41, z42⟩ := ln_cells Z4; have f40 := Z4.frozen 0; have f41 := Z4.frozen 1; have f42 := Z4.frozen 2; have hzl4 := Z4.lt; have HZ4 := hide Z4; clear d4 k4 Z4))
  all_goals
    go_wp2_with fail
    go_meet
    first
      | exact CutY.mkA HT.out HP.out HK.out hgB (by have := HB.out; omega) D4.out K4.out ⟨by omega, by omega⟩
      | exact CutY.mkB HT.out HP.out HK.out hgB (by have := HB.out; omega) D4.out HD.out.lt K4.out rfl HZ4.out ⟨by omega, by omega⟩
end exactSteps
end Go.Proofs.Ytmbgnekilgobaaa
