/-
  The reference's pool: a number is filled (three stores in one statement). No conditions beyond those of the statement. The reference's pool: Intern. No conditions beyond those of the statement. The reference's pool: Intern of a new key. No conditions beyond those of the statement. Both pools side by side: each call of the program's pool, and the reference's answer to the same call. No conditions beyond those of the statement. A pool in an arena of one class; law 9's example. No conditions beyond those of the statement. law 9's two pools. No conditions beyond those of the statement.
-/
import Derived.Test.YtidobhflijdccaaNf
import Derived.Test.YtidobhflijdccaaNa
import Derived.Test.YtidobhflijdccaaNb
import Derived.Test.YtidobhflijdccaaPr
import Derived.Test.YtidobhflijdccaaBa
set_option linter.unusedVariables false
set_option linter.unusedSimpArgs false
namespace Go.Proofs.Ytidobhflijdccaa
open Go.RowKit Cfp
theorem IsRP.for {w : World} {F F' : Nat → Prop} {p b : Nat} {n : Int} {E : List PE} {ρ : RA} (h : IsRP w F p b n E ρ) (hF : ∀ k, k < w.heap.size → F' k → F k) : IsRP w F' p b n E ρ := by
  obtain ⟨KA, kc, UA, uc, TA, tc, h1, h2⟩ := h
  refine ⟨KA, kc, UA, uc, TA, tc, ⟨h1.blk, h1.ks, h1.us, h1.ts, fun e => h1.fp (hF _ h1.blk.lt e), fun k hk e => h1.fk k hk (hF _ (h1.ks.inB hk).2 e), fun k hk e => h1.fu k hk (hF _ (h1.us.inB hk).2 e), fun k hk e => h1.ft k hk (hF _ (h1.ts.inB hk).2 e)⟩, h2.other (fun k hk e => ?_)⟩
  rcases e with e | e
  · exact .inl (hF k hk e)
  · exact .inr e
theorem RPS.less {w : World} {F F' : Nat → Prop} (hF : ∀ k, F k → F' k) {k : Nat} (h : RPS F' w k) : RPS F w k := ⟨fun e => h.1 (hF k e), h.2⟩
namespace poolGrow
noncomputable def rg19 : Code := ((Try.f50.body.bind (findReg 19)).getD .skip)
theorem pehCs_all {l : List PE} {i : Nat} {x : PE} (h : l[i]? = some x) (y : PE) :
    (((pehCs l).set (i * 3) (.int .i64 y.h.1)).set (i * 3 + 1) (.int .i64 y.h.2.1)).set (i * 3 + 2) (.int .i64 y.h.2.2) = pehCs (l.set i y) := by
  have hi := (List.getElem?_eq_some_iff.1 h).1
  have key : ∀ u, (l.set i u)[i]? = some u := fun u => by simp [hi]
  have key2 : ∀ u v, ((l.set i u).set i v)[i]? = some v := fun u v => by simp [hi]
  have e1 : (pehCs l).set (i * 3) (.int .i64 y.h.1) = pehCs (l.set i { x with h := (y.h.1, x.h.2.1, x.h.2.2) }) := pehCs_set (k := 0) h (by omega) rfl
  have e2 : (pehCs (l.set i { x with h := (y.h.1, x.h.2.1, x.h.2.2) })).set (i * 3 + 1) (.int .i64 y.h.2.1) = pehCs ((l.set i { x with h := (y.h.1, x.h.2.1, x.h.2.2) }).set i { x with h := (y.h.1, y.h.2.1, x.h.2.2) }) := pehCs_set (key _) (by omega) rfl
  have e3 : (pehCs ((l.set i { x with h := (y.h.1, x.h.2.1, x.h.2.2) }).set i { x with h := (y.h.1, y.h.2.1, x.h.2.2) })).set (i * 3 + 2) (.int .i64 y.h.2.2) = pehCs (((l.set i { x with h := (y.h.1, x.h.2.1, x.h.2.2) }).set i { x with h := (y.h.1, y.h.2.1, x.h.2.2) }).set i y) := pehCs_set (y := y) (key2 _ _) (by omega) rfl
  rw [e1, e2, e3, List.set_set, List.set_set]
section
variable {w1 w8 : World} {F : Nat → Prop} {p b : Nat} {n : Int} {E : List PE} {ρ : RA} {KA UA TA : Option Addr} {kc uc tc : Nat}
theorem put_fin (h : RPm w1 F p b n E KA kc UA uc TA tc) (hA : IsRA w1 (RG F p KA UA TA) b ρ) (id : Nat) (y : PE)
    (k : Keeps (fun q => inB KA q ∨ inB UA q ∨ inB TA q) w1 w8) (oK : Own w8 0 9 1 KA E.length kc ((kyCs E).set id (.string (kyB y)))) (oU : Own w8 0 3 1 UA E.length uc ((usCs E).set id (.int .i64 y.users))) (oT : Own w8 0 40 3 TA E.length tc (pehCs (E.set id y))) :
    IsRP w8 F p b n (E.set id y) ρ ∧ Keeps (RPS F w1) w1 w8 := by
  have hpn : ¬ (inB KA p ∨ inB UA p ∨ inB TA p) := by
    rintro (e | e | e)
    · exact h.ks.ne_blk h.blk (by decide) e rfl
    · exact h.us.ne_blk h.blk (by decide) e rfl
    · exact h.ts.ne_blk h.blk (by decide) e rfl
  have hl : (E.set id y).length = E.length := by simp
  refine ⟨⟨KA, kc, UA, uc, TA, tc, ⟨?_, ?_, ?_, ?_, h.fp, h.fk, h.fu, h.ft⟩, ?_⟩, k.weak (fun q _ e => ?_)⟩
  · rw [hl]; exact h.blk.kept k hpn
  · rw [hl, ← kyCs_set]; exact oK
  · rw [hl, ← usCs_set]; exact oU
  · rw [hl]; exact oT
  · exact hA.kept k (fun q e => .inl (.inr (.inr e)))
  · rcases e with e | e | e
    · exact h.inK e
    · exact h.inU e
    · exact h.inT e
set_option maxRecDepth 1000000 in
set_option maxHeartbeats 4000000 in
theorem reg19 (h : RPm w1 F p b n E KA kc UA uc TA tc) (hA : IsRA w1 (RG F p KA UA TA) b ρ) (hEN : E.length ≤ 1000001) (id : Nat) (x : PE) (hx : E[id]? = some x) (t : ByteArray) (gh : Nat) (hh : Hd) (hg : Blk w1 gh 40 #[.int .i64 hh.1, .int .i64 hh.2.1, .int .i64 hh.2.2]) (hF : F gh) (s2 s3 s4 s5 s6 s7 s9 s11 s12 s13 s14 s15 s16 s17 s18 s19 s20 s21 s22 s23 s24 s25 s26 s27 s28 s29 s30 s31 s32 s33 s34 s35 s36 s37 s38 s39 s40 s41 s42 s43 s44 s45 s46 s47 s48 s49 s50 s51 s52 s53 s54 s55 s56 s57 s58 s59 s60 s61 s62 s63 s64 s65 s66 s67 s68 s69 s70 s71 s72 s73 s74 s75 s76 s77 s78 s79 s80 s81 s82 s83 s84 s85 s86 s87 s88 s89 s90 s91 s92 s93 s94 s95 s96 s97 s98 s99 s100 s101 s102 s103 s104 s105 s106 s107 s108 s109 s110 s111 s112 s113 s114 s115 s116 s117 s118 s119 s120 s121 s122 s123 s124 s125 s126 s127 s128 : Value) :
    Code.wp Try.prog rg19 (NormPost fun a' w' => (∃ u108 u109 u110 u111 u112 u113 u114 u115 u116 u117 u118 u119 u120 u121 u122 u123 u124 u125 u126 u127, a' = ⟨#[.pointer (some ⟨p, 0, none⟩), .string t, s2, s3, s4, s5, s6, s7, .pointer (some ⟨gh, 0, none⟩), s9, .int .i64 (id : Int), s11, s12, s13, s14, s15, s16, s17, s18, s19, s20, s21, s22, s23, s24, s25, s26, s27, s28, s29, s30, s31, s32, s33, s34, s35, s36, s37, s38, s39, s40, s41, s42, s43, s44, s45, s46, s47, s48, s49, s50, s51, s52, s53, s54, s55, s56, s57, s58, s59, s60, s61, s62, s63, s64, s65, s66, s67, s68, s69, s70, s71, s72, s73, s74, s75, s76, s77, s78, s79, s80, s81, s82, s83, s84, s85, s86, s87, s88, s89, s90, s91, s92, s93, s94, s95, s96, s97, s98, s99, s100, s101, s102, s103, s104, s105, s106, s107, u108, u109, u110, u111, u112, u113, u114, u115, u116, u117, u118, u119, u120, u121, u122, u123, u124, u125, u126, u127, s128], []⟩) ∧ IsRP w' F p b n (E.set id ⟨hh, t.data.toList, 1⟩) ρ ∧ Keeps (RPS F w1) w1 w') ⟨#[.pointer (some ⟨p, 0, none⟩), .string t, s2, s3, s4, s5, s6, s7, .pointer (some ⟨gh, 0, none⟩), s9, .int .i64 (id : Int), s11, s12, s13, s14, s15, s16, s17, s18, s19, s20, s21, s22, s23, s24, s25, s26, s27, s28, s29, s30, s31, s32, s33, s34, s35, s36, s37, s38, s39, s40, s41, s42, s43, s44, s45, s46, s47, s48, s49, s50, s51, s52, s53, s54, s55, s56, s57, s58, s59, s60, s61, s62, s63, s64, s65, s66, s67, s68, s69, s70, s71, s72, s73, s74, s75, s76, s77, s78, s79, s80, s81, s82, s83, s84, s85, s86, s87, s88, s89, s90, s91, s92, s93, s94, s95, s96, s97, s98, s99, s100, s101, s102, s103, s104, s105, s106, s107, s108, s109, s110, s111, s112, s113, s114, s115, s116, s117, s118, s119, s120, s121, s122, s123, s124, s125, s126, s127, s128], []⟩ w1 := by
  have HFin := hide (fun w8 => put_fin (w8 := w8) h hA id ⟨hh, t.data.toList, 1⟩)
  have HT : Hid (kyB (⟨hh, t.data.toList, 1⟩ : PE) = t) := hide (by unfold kyB; simp)
  obtain ⟨N, hN⟩ : ∃ N, N = E.length := ⟨_, rfl⟩
  obtain ⟨⟨c0, c1, c2, c3, c4⟩, hpl⟩ := h.cells N hN
  have hid : id < N := by rw [hN]; exact (List.getElem?_eq_some_iff.1 hx).1
  have hks := h.ks
  have hus := h.us
  have hts := h.ts
  rw [← hN] at hks hus hts HFin hEN
  obtain ⟨gk, rfl, _, hgk⟩ := hks.some_ (by omega)
  obtain ⟨gu, rfl, _, hgu⟩ := hus.some_ (by omega)
  obtain ⟨gt, rfl, _, hgt⟩ := hts.some_ (by omega)
  have ik : inB (some ⟨gk, 0, none⟩ : Option Addr) gk := ⟨_, rfl, rfl⟩
  have iu : inB (some ⟨gu, 0, none⟩ : Option Addr) gu := ⟨_, rfl, rfl⟩
  have it : inB (some ⟨gt, 0, none⟩ : Option Addr) gt := ⟨_, rfl, rfl⟩
  have nk : ∀ {q : Nat}, inB (some ⟨gk, 0, none⟩ : Option Addr) q → gk = q := fun h => (inB_some _ _ _).1 h
  have nu : ∀ {q : Nat}, inB (some ⟨gu, 0, none⟩ : Option Addr) q → gu = q := fun h => (inB_some _ _ _).1 h
  have nt : ∀ {q : Nat}, inB (some ⟨gt, 0, none⟩ : Option Addr) q → gt = q := fun h => (inB_some _ _ _).1 h
  have HPn : Hid (∀ q, (q = p ∨ q = gh) → ¬ (inB (some ⟨gk, 0, none⟩ : Option Addr) q ∨ inB (some ⟨gu, 0, none⟩ : Option Addr) q ∨ inB (some ⟨gt, 0, none⟩ : Option Addr) q)) := hide (by
    rintro q (rfl | rfl) (e | e | e)
    · exact h.ks.ne_blk h.blk (by decide) e rfl
    · exact h.us.ne_blk h.blk (by decide) e rfl
    · exact h.ts.ne_blk h.blk (by decide) e rfl
    · exact h.ks.ne_blk hg (by decide) e rfl
    · exact h.us.ne_blk hg (by decide) e rfl
    · exact h.ft _ e hF)
  obtain ⟨⟨h0, h1, h2⟩, _, hgl⟩ := hg.three
  have HSg : Hid (∀ W, Keeps (fun q => inB (some ⟨gk, 0, none⟩ : Option Addr) q ∨ inB (some ⟨gu, 0, none⟩ : Option Addr) q ∨ inB (some ⟨gt, 0, none⟩ : Option Addr) q) w1 W → (W.cell? ⟨p, 2, none⟩ = some (.slice (some ⟨gk, 0, none⟩) N kc) ∧ W.cell? ⟨p, 3, none⟩ = some (.slice (some ⟨gu, 0, none⟩) N uc) ∧ W.cell? ⟨p, 4, none⟩ = some (.slice (some ⟨gt, 0, none⟩) N tc) ∧ W.cell? ⟨gh, 0, none⟩ = some (.int .i64 hh.1) ∧ W.cell? ⟨gh, 1, none⟩ = some (.int .i64 hh.2.1) ∧ W.cell? ⟨gh, 2, none⟩ = some (.int .i64 hh.2.2))) := hide (fun W kW => ⟨kW.cell_some c2 (HPn.out p (.inl rfl)), kW.cell_some c3 (HPn.out p (.inl rfl)), kW.cell_some c4 (HPn.out p (.inl rfl)), kW.cell_some h0 (HPn.out gh (.inr rfl)), kW.cell_some h1 (HPn.out gh (.inr rfl)), kW.cell_some h2 (HPn.out gh (.inr rfl))⟩)
  have k0 : Keeps (fun q => inB (some ⟨gk, 0, none⟩ : Option Addr) q ∨ inB (some ⟨gu, 0, none⟩ : Option Addr) q ∨ inB (some ⟨gt, 0, none⟩ : Option Addr) q) w1 w1.drew := (Keeps.refl _ _).drew
  have OK : Hid (Own w1.drew 0 9 1 (some ⟨gk, 0, none⟩) N kc (kyCs E)) := hide (hks.kept ((Keeps.refl (fun _ => False) w1).drew) (fun _ _ h => h))
  have OU : Hid (Own w1.drew 0 3 1 (some ⟨gu, 0, none⟩) N uc (usCs E)) := hide (hus.kept ((Keeps.refl (fun _ => False) w1).drew) (fun _ _ h => h))
  have OT : Hid (Own w1.drew 0 40 3 (some ⟨gt, 0, none⟩) N tc (pehCs E)) := hide (hts.kept ((Keeps.refl (fun _ => False) w1).drew) (fun _ _ h => h))
  have KK := hide k0
  have HX := hide hx
  have hiI : (id : Int) < (N : Int) := by omega
  have hi00 : (0 : Int) ≤ (id : Int) := by omega
  clear h hA hN c0 c1 c2 c3 c4 hks hus hts k0 hg hF h0 h1 h2 hx hgk hgu hgt hpl hgl
  conv => arg 2; whnf
  dsimp only
  refine wp_region_held_drew (S := fun W => W.cell? ⟨p, 2, none⟩ = some (.slice (some ⟨gk, 0, none⟩) N kc) ∧ W.cell? ⟨p, 3, none⟩ = some (.slice (some ⟨gu, 0, none⟩) N uc) ∧ W.cell? ⟨p, 4, none⟩ = some (.slice (some ⟨gt, 0, none⟩) N tc) ∧ W.cell? ⟨gh, 0, none⟩ = some (.int .i64 hh.1) ∧ W.cell? ⟨gh, 1, none⟩ = some (.int .i64 hh.2.1) ∧ W.cell? ⟨gh, 2, none⟩ = some (.int .i64 hh.2.2)) (by kernel_rfl) (HSg.out _ KK.out) (fun hHeld => ?_)
  refine wpAnyH_take (i := 0) (v := ?_) rfl (by kernel_rfl) (by kernel_rfl) (by kernel_rfl) (fun _ _ _ h => h) (Or.inl ⟨by first | kernel_rfl | rfl, ?_⟩) (by assumption) ?_; rotate_left; focus (intro w hSw; (try dsimp only at hSw); go_simp; try (with_reducible rfl)); (try simp only [Act.put, List.getElem_toArray, List.getElem_cons_succ, List.getElem_cons_zero, List.setIfInBounds_toArray, List.set_cons_zero, List.set_cons_succ])
  refine wpAnyH_take (i := 1) (v := ?_) rfl (by kernel_rfl) (by kernel_rfl) (by kernel_rfl) (fun _ _ _ h => h) (Or.inl ⟨by first | kernel_rfl | rfl, ?_⟩) (by assumption) ?_; rotate_left; focus (intro w hSw; (try dsimp only at hSw); go_simp; try (with_reducible rfl)); (try simp only [Act.put, List.getElem_toArray, List.getElem_cons_succ, List.getElem_cons_zero, List.setIfInBounds_toArray, List.set_cons_zero, List.set_cons_succ])
  refine wpAnyH_take (i := 2) (v := ?_) rfl (by kernel_rfl) (by kernel_rfl) (by kernel_rfl) (fun _ _ _ h => h) (Or.inl ⟨by first | kernel_rfl | rfl, ?_⟩) (by assumption) ?_; rotate_left; focus (intro w hSw; (try dsimp only at hSw); go_simp; try (with_reducible rfl)); (try simp only [Act.put, List.getElem_toArray, List.getElem_cons_succ, List.getElem_cons_zero, List.setIfInBounds_toArray, List.set_cons_zero, List.set_cons_succ])
  refine wpAnyH_take (i := 3) (v := ?_) rfl (by kernel_rfl) (by kernel_rfl) (by kernel_rfl) (fun _ _ _ h => h) (Or.inl ⟨by first | kernel_rfl | rfl, ?_⟩) (by assumption) ?_; rotate_left; focus (intro w hSw; (try dsimp only at hSw); go_simp; try (with_reducible rfl)); (try simp only [Act.put, List.getElem_toArray, List.getElem_cons_succ, List.getElem_cons_zero, List.setIfInBounds_toArray, List.set_cons_zero, List.set_cons_succ])
  refine wpAnyH_take (i := 4) (v := ?_) rfl (by kernel_rfl) (by kernel_rfl) (by kernel_rfl) (fun _ _ _ h => h) (Or.inl ⟨by first | kernel_rfl | rfl, ?_⟩) (by assumption) ?_; rotate_left; focus (intro w hSw; (try dsimp only at hSw); go_simp; try (with_reducible rfl)); (try simp only [Act.put, List.getElem_toArray, List.getElem_cons_succ, List.getElem_cons_zero, List.setIfInBounds_toArray, List.set_cons_zero, List.set_cons_succ])
  refine wpAnyH_take (i := 5) (v := ?_) rfl (by kernel_rfl) (by kernel_rfl) (by kernel_rfl) (fun _ _ _ h => h) (Or.inl ⟨by first | kernel_rfl | rfl, ?_⟩) (by assumption) ?_; rotate_left; focus (intro w hSw; (try dsimp only at hSw); go_simp; try (with_reducible rfl)); (try simp only [Act.put, List.getElem_toArray, List.getElem_cons_succ, List.getElem_cons_zero, List.setIfInBounds_toArray, List.set_cons_zero, List.set_cons_succ])
  refine wpAnyH_take (i := 6) (v := ?_) rfl (by kernel_rfl) (by kernel_rfl) (by kernel_rfl) (fun _ _ _ h => h) (Or.inl ⟨by first | kernel_rfl | rfl, ?_⟩) (by assumption) ?_; rotate_left; focus (intro w hSw; (try dsimp only at hSw); go_simp; try (with_reducible rfl)); (try simp only [Act.put, List.getElem_toArray, List.getElem_cons_succ, List.getElem_cons_zero, List.setIfInBounds_toArray, List.set_cons_zero, List.set_cons_succ])
  refine wpAnyH_take (i := 7) (v := ?_) rfl (by kernel_rfl) (by kernel_rfl) (by kernel_rfl) (fun _ _ _ h => h) (Or.inl ⟨by first | kernel_rfl | rfl, ?_⟩) (by assumption) ?_; rotate_left; focus (intro w hSw; (try dsimp only at hSw); go_simp; try (with_reducible rfl)); (try simp only [Act.put, List.getElem_toArray, List.getElem_cons_succ, List.getElem_cons_zero, List.setIfInBounds_toArray, List.set_cons_zero, List.set_cons_succ])
  refine wpAnyH_take (i := 8) (v := ?_) rfl (by kernel_rfl) (by kernel_rfl) (by kernel_rfl) (fun _ _ _ h => h) (Or.inl ⟨by first | kernel_rfl | rfl, ?_⟩) (by assumption) ?_; rotate_left; focus (intro w hSw; (try dsimp only at hSw); go_simp; try (with_reducible rfl)); (try simp only [Act.put, List.getElem_toArray, List.getElem_cons_succ, List.getElem_cons_zero, List.setIfInBounds_toArray, List.set_cons_zero, List.set_cons_succ])
  refine wpAnyH_take (i := 9) (v := ?_) rfl (by kernel_rfl) (by kernel_rfl) (by kernel_rfl) (fun _ _ _ h => h) (Or.inl ⟨by first | kernel_rfl | rfl, ?_⟩) (by assumption) ?_; rotate_left; focus (intro w hSw; (try dsimp only at hSw); go_simp; try (with_reducible rfl)); (try simp only [Act.put, List.getElem_toArray, List.getElem_cons_succ, List.getElem_cons_zero, List.setIfInBounds_toArray, List.set_cons_zero, List.set_cons_succ])
  refine wpAnyH_take (i := 10) (v := ?_) rfl (by kernel_rfl) (by kernel_rfl) (by kernel_rfl) (fun _ _ _ h => h) (Or.inl ⟨by first | kernel_rfl | rfl, ?_⟩) (by assumption) ?_; rotate_left; focus (intro w hSw; (try dsimp only at hSw); go_simp; try (with_reducible rfl)); (try simp only [Act.put, List.getElem_toArray, List.getElem_cons_succ, List.getElem_cons_zero, List.setIfInBounds_toArray, List.set_cons_zero, List.set_cons_succ])
  refine wpAnyH_take (i := 11) (v := ?_) rfl (by kernel_rfl) (by kernel_rfl) (by kernel_rfl) (fun _ _ _ h => h) (Or.inl ⟨by first | kernel_rfl | rfl, ?_⟩) (by assumption) ?_; rotate_left; focus (intro w hSw; (try dsimp only at hSw); go_simp; try (with_reducible rfl)); (try simp only [Act.put, List.getElem_toArray, List.getElem_cons_succ, List.getElem_cons_zero, List.setIfInBounds_toArray, List.set_cons_zero, List.set_cons_succ])
  refine wpAnyH_take (i := 12) (v := ?_) rfl (by kernel_rfl) (by kernel_rfl) (by kernel_rfl) (fun _ _ _ h => h) (Or.inl ⟨by first | kernel_rfl | rfl, ?_⟩) (by assumption) ?_; rotate_left; focus (intro w hSw; (try dsimp only at hSw); go_simp; try (with_reducible rfl)); (try simp only [Act.put, List.getElem_toArray, List.getElem_cons_succ, List.getElem_cons_zero, List.setIfInBounds_toArray, List.set_cons_zero, List.set_cons_succ])
  refine wpAnyH_take (i := 13) (v := ?_) rfl (by kernel_rfl) (by kernel_rfl) (by kernel_rfl) (fun _ _ _ h => h) (Or.inl ⟨by first | kernel_rfl | rfl, ?_⟩) (by assumption) ?_; rotate_left; focus (intro w hSw; (try dsimp only at hSw); go_simp; try (with_reducible rfl)); (try simp only [Act.put, List.getElem_toArray, List.getElem_cons_succ, List.getElem_cons_zero, List.setIfInBounds_toArray, List.set_cons_zero, List.set_cons_succ])
  refine wpAnyH_take (i := 14) (v := ?_) rfl (by kernel_rfl) (by kernel_rfl) (by kernel_rfl) (fun _ _ _ h => h) (Or.inl ⟨by first | kernel_rfl | rfl, ?_⟩) (by assumption) ?_; rotate_left; focus (intro w hSw; (try dsimp only at hSw); go_simp; try (with_reducible rfl)); (try simp only [Act.put, List.getElem_toArray, List.getElem_cons_succ, List.getElem_cons_zero, List.setIfInBounds_toArray, List.set_cons_zero, List.set_cons_succ])
  refine wpAnyH_take (i := 15) (v := ?_) rfl (by kernel_rfl) (by kernel_rfl) (by kernel_rfl) (fun _ _ _ h => h) (Or.inl ⟨by first | kernel_rfl | rfl, ?_⟩) (by assumption) ?_; rotate_left; focus (intro w hSw; (try dsimp only at hSw); go_simp; try (with_reducible rfl)); (try simp only [Act.put, List.getElem_toArray, List.getElem_cons_succ, List.getElem_cons_zero, List.setIfInBounds_toArray, List.set_cons_zero, List.set_cons_succ])
  refine wpAnyH_take (i := 16) (v := ?_) rfl (by kernel_rfl) (by kernel_rfl) (by kernel_rfl) (fun _ _ _ h => h) (Or.inl ⟨by first | kernel_rfl | rfl, ?_⟩) (by assumption) ?_; rotate_left; focus (intro w hSw; (try dsimp only at hSw); go_simp; try (with_reducible rfl)); (try simp only [Act.put, List.getElem_toArray, List.getElem_cons_succ, List.getElem_cons_zero, List.setIfInBounds_toArray, List.set_cons_zero, List.set_cons_succ])
  refine wpAnyH_take (i := 17) (v := ?_) rfl (by kernel_rfl) (by kernel_rfl) (by kernel_rfl) (fun _ _ _ h => h) (Or.inl ⟨by first | kernel_rfl | rfl, ?_⟩) (by assumption) ?_; rotate_left; focus (intro w hSw; (try dsimp only at hSw); go_simp; try (with_reducible rfl)); (try simp only [Act.put, List.getElem_toArray, List.getElem_cons_succ, List.getElem_cons_zero, List.setIfInBounds_toArray, List.set_cons_zero, List.set_cons_succ])
  trace "LOADS"
  obtain ⟨wc, hwc⟩ : ∃ x, x = w1.drew := ⟨_, rfl⟩
  rw [← hwc] at OK OU OT KK
  rw [← hwc]
  clear hwc hHeld
  obtain ⟨wn, hwn⟩ : ∃ x, x = wc.setCell ⟨gk, id, none⟩ (.string t) := ⟨_, rfl⟩
  have k1 := keepsOne wc gk id (.string t)
  have o1 := OK.out.store id (.string t)
  rw [← hwn] at k1 o1
  have q1 := OK.out.cell id (by omega)
  rw [kyCs_at HX.out] at q1
  have f1 := OK.out.frozen id
  have OU2 := hide (OU.out.kept k1 (fun q hq e => OU.out.ne OK.out (by decide) hq (by rw [e]; exact ik)))
  have OT2 := hide (OT.out.kept k1 (fun q hq e => OT.out.ne OK.out (by decide) hq (by rw [e]; exact ik)))
  have hlk := (OK.out.inB ik).2
  have OK2 := hide o1
  have K2 := hide (KK.out.step k1 (fun q _ e => by rw [e]; exact .inl ik))
  have HWn := hide hwn
  clear k1 o1 hwn OK OU OT KK
  refine wpAnyH_ready (rs := [18]) (by kernel_rfl) (by simp) ?_
  refine AllReadyH.cons rfl (fun K hK => ?_) AllReadyH.nil
  go_simp
  rw [← HWn.out]
  refine hK.out _ _ (HSg.out _ K2.out) (fun _ => ?_)
  clear hK K q1 f1 hlk HWn
  (try simp only [Act.put, List.getElem_toArray, List.getElem_cons_succ, List.getElem_cons_zero, List.setIfInBounds_toArray, List.set_cons_zero, List.set_cons_succ])
  trace "S18"
  refine wpAnyH_take (i := 19) (v := ?_) rfl (by kernel_rfl) (by kernel_rfl) (by kernel_rfl) (fun _ _ _ h => h) (Or.inl ⟨by first | kernel_rfl | rfl, ?_⟩) (by assumption) ?_; rotate_left; focus (intro w hSw; (try dsimp only at hSw); go_simp; try (with_reducible rfl)); (try simp only [Act.put, List.getElem_toArray, List.getElem_cons_succ, List.getElem_cons_zero, List.setIfInBounds_toArray, List.set_cons_zero, List.set_cons_succ])
  obtain ⟨wm, hwm⟩ : ∃ x, x = wn.setCell ⟨gu, id, none⟩ (.int .i64 1) := ⟨_, rfl⟩
  have k1 := keepsOne wn gu id (.int .i64 1)
  have o1 := OU2.out.store id (.int .i64 1)
  rw [← hwm] at k1 o1
  have q1 := OU2.out.cell id (by omega)
  rw [usCs_at HX.out] at q1
  have f1 := OU2.out.frozen id
  have OK3 := hide (OK2.out.kept k1 (fun q hq e => OK2.out.ne OU2.out (by decide) hq (by rw [e]; exact iu)))
  have OT3 := hide (OT2.out.kept k1 (fun q hq e => OT2.out.ne OU2.out (by decide) hq (by rw [e]; exact iu)))
  have hlk := (OU2.out.inB iu).2
  have OU3 := hide o1
  have K3 := hide (K2.out.step k1 (fun q _ e => by rw [e]; exact .inr (.inl iu)))
  have HWm := hide hwm
  clear k1 o1 hwm OK2 OU2 OT2 K2
  refine wpAnyH_ready (rs := [20]) (by kernel_rfl) (by simp) ?_
  refine AllReadyH.cons rfl (fun K hK => ?_) AllReadyH.nil
  go_simp
  rw [← HWm.out]
  refine hK.out _ _ (HSg.out _ K3.out) (fun _ => ?_)
  clear hK K q1 f1 hlk HWm
  (try simp only [Act.put, List.getElem_toArray, List.getElem_cons_succ, List.getElem_cons_zero, List.setIfInBounds_toArray, List.set_cons_zero, List.set_cons_succ])
  trace "S20"
  refine wpAnyH_take (i := 21) (v := ?_) rfl (by kernel_rfl) (by kernel_rfl) (by kernel_rfl) (fun _ _ _ h => h) (Or.inl ⟨by first | kernel_rfl | rfl, ?_⟩) (by assumption) ?_; rotate_left; focus (intro w hSw; (try dsimp only at hSw); go_simp; try (with_reducible rfl)); (try simp only [Act.put, List.getElem_toArray, List.getElem_cons_succ, List.getElem_cons_zero, List.setIfInBounds_toArray, List.set_cons_zero, List.set_cons_succ])
  obtain ⟨wx, hwx⟩ : ∃ x, x = ((wm.setCell ⟨gt, id * 3, none⟩ (.int .i64 hh.1)).setCell ⟨gt, id * 3 + 1, none⟩ (.int .i64 hh.2.1)).setCell ⟨gt, id * 3 + 2, none⟩ (.int .i64 hh.2.2) := ⟨_, rfl⟩
  have k1 : Keeps (· = gt) wm wx := by rw [hwx]; exact ((keepsOne wm gt _ _).trans (keepsOne _ gt _ _)).trans (keepsOne _ gt _ _)
  have o1 := ((OT3.out.store (id * 3) (.int .i64 hh.1)).store (id * 3 + 1) (.int .i64 hh.2.1)).store (id * 3 + 2) (.int .i64 hh.2.2)
  rw [← hwx] at o1
  have hall := pehCs_all HX.out ⟨hh, t.data.toList, 1⟩
  dsimp only at hall
  rw [hall] at o1
  obtain ⟨g0, g1, g2⟩ := pehCs_at HX.out
  have q0 := OT3.out.cell (id * 3) (by omega)
  have q1 := OT3.out.cell (id * 3 + 1) (by omega)
  have q2 := OT3.out.cell (id * 3 + 2) (by omega)
  rw [g0] at q0
  rw [g1] at q1
  rw [g2] at q2
  have f0 := OT3.out.frozen (id * 3)
  have f1 := OT3.out.frozen (id * 3 + 1)
  have f2 := OT3.out.frozen (id * 3 + 2)
  have OK4 := hide (OK3.out.kept k1 (fun q hq e => OK3.out.ne OT3.out (by decide) hq (by rw [e]; exact it)))
  have OU4 := hide (OU3.out.kept k1 (fun q hq e => OU3.out.ne OT3.out (by decide) hq (by rw [e]; exact it)))
  have hlk := (OT3.out.inB it).2
  have OT4 := hide o1
  have K4 := hide (K3.out.step k1 (fun q _ e => by rw [e]; exact .inr (.inr it)))
  have HWx := hide hwx
  clear k1 o1 hwx OK3 OU3 OT3 K3 g0 g1 g2 hall
  refine wpAnyH_ready (rs := [22]) (by kernel_rfl) (by simp) ?_
  refine AllReadyH.cons rfl (fun K hK => ?_) AllReadyH.nil
  go_simp
  rw [← HWx.out]
  refine hK.out _ _ (HSg.out _ K4.out) (fun _ => ?_)
  clear hK K q0 q1 q2 f0 f1 f2 hlk HWx
  (try simp only [Act.put, List.getElem_toArray, List.getElem_cons_succ, List.getElem_cons_zero, List.setIfInBounds_toArray, List.set_cons_zero, List.set_cons_succ])
  trace "S22"
  refine wpAnyH_done (by kernel_rfl) ?_ _
  (try simp only [Act.put, List.getElem_toArray, List.getElem_cons_succ, List.getElem_cons_zero, List.setIfInBounds_toArray, List.set_cons_zero, List.set_cons_succ])
  refine show _ ∧ _ from ⟨⟨_, _, _, _, _, _, _, _, _, _, _, _, _, _, _, _, _, _, _, _, rfl⟩, ?_⟩
  exact HFin.out wx K4.out (by rw [HT.out]; exact OK4.out) OU4.out OT4.out
end
end poolGrow
end Go.Proofs.Ytidobhflijdccaa

set_option linter.unusedVariables false
set_option linter.unusedSimpArgs false
namespace Go.Proofs.Ytidobhflijdccaa
open Go.RowKit Cfp
section
variable {w : World} {F : Nat → Prop} {p b : Nat} {n : Int} {E : List PE} {ρ : RA}
theorem rpintern_form (h : IsRP w F p b n E ρ) (t : ByteArray) (h0 : t.size = 0) :
    Calls Try.prog 50 #[.pointer (some ⟨p, 0, none⟩), .string t] w fun e w' => e = .returned (.tuple #[.int .i64 0, .int .i64 3]) ∧ w' = w := by
  have hlen : t.data.toList.length = t.size := by rw [Array.length_toList]; rfl
  have HK : Hid (t.data.toList = []) := hide (List.eq_nil_of_length_eq_zero (by omega))
  have hne : t.toList.isEmpty = true := by rw [ByteArray.toList_eq, HK.out]; rfl
  clear h h0 hlen
  go_enter Try.func50, Try.ntmps50
  go_wp2_with fail
  go_ret2
  exact ⟨rfl, rfl⟩
theorem rpintern_long (h : IsRP w F p b n E ρ) (t : ByteArray) (h0 : 255 < t.size) (h1 : t.size ≤ 1000000) :
    Calls Try.prog 50 #[.pointer (some ⟨p, 0, none⟩), .string t] w fun e w' => e = .returned (.tuple #[.int .i64 0, .int .i64 4]) ∧ w' = w := by
  have hlen : t.data.toList.length = t.size := by rw [Array.length_toList]; rfl
  have hne : t.toList.isEmpty = false := by
    rw [ByteArray.toList_eq]
    rcases hx : t.data.toList with _ | _
    · rw [hx] at hlen; simp at hlen; omega
    · rfl
  have e1 : decide ((255 : Int) < (t.size : Int)) = true := by simp; omega
  clear h h0 hlen
  go_enter Try.func50, Try.ntmps50
  go_wp2_with fail
  go_ret2
  exact ⟨rfl, rfl⟩
set_option maxRecDepth 100000 in
set_option maxHeartbeats 1000000 in
theorem rpintern_old (h : IsRP w F p b n E ρ) (hz : ∃ e, E[0]? = some e ∧ e.users = 0) (hE : E.length ≤ 1000000) (t : ByteArray) (h0 : 1 ≤ t.size) (h1 : t.size ≤ 255) (id : Nat) (x : PE) (hx : E[id]? = some x) (hu : 0 < x.users) (hk : x.key = t.data.toList) (hub : x.users ≤ 1000000)
    (hun : ∀ (j : Nat) (y : PE), E[j]? = some y → 0 < y.users → y.key = t.data.toList → j = id) :
    Calls Try.prog 50 #[.pointer (some ⟨p, 0, none⟩), .string t] w fun e w' => e = .returned (.tuple #[.int .i64 id, .int .i64 0]) ∧ IsRP w' F p b n (E.set id { x with users := x.users + 1 }) ρ ∧ Keeps (RPS F w) w w' := by
  have hlen : t.data.toList.length = t.size := by rw [Array.length_toList]; rfl
  have hne : t.toList.isEmpty = false := by
    rw [ByteArray.toList_eq]
    rcases hx : t.data.toList with _ | _
    · rw [hx] at hlen; simp at hlen; omega
    · rfl
  have e1 : decide ((255 : Int) < (t.size : Int)) = false := by simp; omega
  obtain ⟨KA, kc, UA, uc, TA, tc, h, hA⟩ := h
  have HFd := hide (rpfind_any h hz hE t)
  obtain ⟨N, hN⟩ : ∃ N, N = E.length := ⟨_, rfl⟩
  have hid : id < N := by rw [hN]; exact (List.getElem?_eq_some_iff.1 hx).1
  have hid1 : 1 ≤ id := by
    rcases Nat.eq_zero_or_pos id with h0 | h0
    · subst h0
      obtain ⟨z, h2, h3⟩ := hz
      rw [hx] at h2
      injection h2 with h2
      subst h2
      omega
    · exact h0
  have hEN : N ≤ 1000000 := by omega
  have H := hide h
  have HA := hide hA
  have HN := hide hN
  have HX := hide hx
  have HU := hide hun
  have HK := hide hk
  have HU0 := hide hu
  clear h hA hN hx hun hk hz hE hlen
  go_enter Try.func50, Try.ntmps50
  go_wp2_with fail
  refine HFd.out.mono ?_
  rintro e w1 ⟨hf, k1⟩
  obtain ⟨y, hy, rfl⟩ : ∃ y, y = x.users ∧ e = .returned (.tuple #[.int .i64 id, .int .i64 y]) := by
    rcases hf with ⟨j, y, hj1, hj, hju, hjk, rfl⟩ | ⟨hno, _⟩
    · obtain rfl := HU.out j y hj hju hjk
      have := HX.out
      rw [hj] at this
      injection this with this
      subst this
      exact ⟨_, rfl, rfl⟩
    · exact absurd HK.out (hno id x HX.out HU0.out)
  have H1 := hide (H.out.quiet k1)
  have HA1 := hide (HA.out.quiet k1)
  have K1 := hide k1
  clear hf k1 HFd H HA hy
  have hus := H1.out.us
  rw [← HN.out] at hus
  obtain ⟨gu, rfl, _, hgu⟩ := hus.some_ (by omega)
  obtain ⟨⟨c0, c1, c2, c3, c4⟩, hpl⟩ := H1.out.cells N HN.out
  have q1 := hus.cell id (by omega)
  have f1 := hus.frozen id
  rw [usCs_at HX.out] at q1
  have hiI : (id : Int) < (N : Int) := by omega
  have hi00 : (0 : Int) ≤ (id : Int) := by omega
  have hip : decide ((0 : Int) < (id : Int)) = true := by simp; omega
  have ws : IntKind.i64.wrap (x.users + 1) = x.users + 1 := IntWalk.i64_in _ (by omega)
  have h2 := H1.out.users HX.out (x.users + 1)
  have k2 := keepsOne w1 gu id (.int .i64 (x.users + 1))
  have hgi : inB (some ⟨gu, 0, none⟩ : Option Addr) gu := ⟨_, rfl, rfl⟩
  have hA2 := HA1.out.kept k2 (fun q e => by subst e; exact RG.ro hgi)
  have K2 := hide (RPS.quiet K1.out (k2.weak (S' := RPS F w1) (fun q _ e => by subst e; exact H1.out.inU hgi)))
  have H2 := hide h2
  have HA2 := hide hA2
  clear h2 hA2 k2 hus hgi H1 HA1
  go_wp2_with fail
  go_ret2
  exact ⟨rfl, ⟨_, _, _, _, _, _, H2.out, HA2.out⟩, K2.out⟩
set_option maxRecDepth 100000 in
set_option maxHeartbeats 1000000 in
theorem rpintern_full (h : IsRP w F p b n E ρ) (hz : ∃ e, E[0]? = some e ∧ e.users = 0) (hE : E.length ≤ 1000000) (t : ByteArray) (h0 : 1 ≤ t.size) (h1 : t.size ≤ 255) (hno : NoKey E t.data.toList) (hfull : (cntU E : Int) = n) :
    Calls Try.prog 50 #[.pointer (some ⟨p, 0, none⟩), .string t] w fun e w' => e = .returned (.tuple #[.int .i64 0, .int .i64 7]) ∧ Keeps (fun _ => False) w w' := by
  have hlen : t.data.toList.length = t.size := by rw [Array.length_toList]; rfl
  have hne : t.toList.isEmpty = false := by
    rw [ByteArray.toList_eq]
    rcases hx : t.data.toList with _ | _
    · rw [hx] at hlen; simp at hlen; omega
    · rfl
  have e1 : decide ((255 : Int) < (t.size : Int)) = false := by simp; omega
  obtain ⟨KA, kc, UA, uc, TA, tc, h, hA⟩ := h
  have HFd := hide (rpfind_any h hz hE t)
  have HLn := hide (fun (wx : World) (kx : Keeps (fun _ => False) w wx) => rplen_any (h.quiet kx) hE)
  obtain ⟨N, hN⟩ : ∃ N, N = E.length := ⟨_, rfl⟩
  obtain ⟨cn, hcn⟩ : ∃ cn, cn = cntU E := ⟨_, rfl⟩
  rw [← hcn] at HLn
  have hEN : N ≤ 1000000 := by omega
  have H := hide h
  have HA := hide hA
  have HN := hide hN
  have HCn := hide hcn
  have HNo := hide hno
  clear h hA hN hz hE hcn hno
  have hfb : ((cn : Int) == n) = true := by rw [HCn.out]; simpa using hfull
  clear hfull
  go_enter Try.func50, Try.ntmps50
  go_wp2_with fail
  refine HFd.out.mono ?_
  rintro e w1 ⟨hf, k1⟩
  obtain rfl : e = .returned (.tuple #[.int .i64 0, .int .i64 0]) := by
    rcases hf with ⟨j, y, hj1, hj, hju, hjk, rfl⟩ | ⟨_, h1⟩
    · exact absurd hjk (HNo.out j y hj hju)
    · exact h1
  have H1 := hide (H.out.quiet k1)
  have HA1 := hide (HA.out.quiet k1)
  have K1 := hide k1
  clear hf k1 HFd H HA
  go_upto_region 9 with fail
  trace "R9"
  obtain ⟨⟨c0, c1, c2, c3, c4⟩, hpl⟩ := H1.out.cells N HN.out
  have HS9 : Hid (w1.drew.cell? ⟨p, 1, none⟩ = some (.int .i64 n)) := hide c1
  have HLd := hide (HLn.out w1.drew (K1.out.trans ((Keeps.refl _ _).drew)))
  clear c0 c1 c2 c3 c4 hpl HLn
  refine wp_region_held_drew (S := fun W => W.cell? ⟨p, 1, none⟩ = some (.int .i64 n)) (by kernel_rfl) HS9.out (fun hHeld => ?_)
  refine wpAnyH_take (i := 0) (v := ?_) rfl (by kernel_rfl) (by kernel_rfl) (by kernel_rfl) (fun _ _ _ h => h) (Or.inl ⟨by first | kernel_rfl | rfl, ?_⟩) (by assumption) ?_; rotate_left; focus (intro w hSw; (try dsimp only at hSw); go_simp; try (with_reducible rfl)); (try simp only [Act.put, List.getElem_toArray, List.getElem_cons_succ, List.getElem_cons_zero, List.setIfInBounds_toArray, List.set_cons_zero, List.set_cons_succ])
  refine wpAnyH_take (i := 2) (v := ?_) rfl (by kernel_rfl) (by kernel_rfl) (by kernel_rfl) (fun _ _ _ h => h) (Or.inl ⟨by first | kernel_rfl | rfl, ?_⟩) (by assumption) ?_; rotate_left; focus (intro w hSw; (try dsimp only at hSw); go_simp; try (with_reducible rfl)); (try simp only [Act.put, List.getElem_toArray, List.getElem_cons_succ, List.getElem_cons_zero, List.setIfInBounds_toArray, List.set_cons_zero, List.set_cons_succ])
  refine wpAnyH_take (i := 3) (v := ?_) rfl (by kernel_rfl) (by kernel_rfl) (by kernel_rfl) (fun _ _ _ h => h) (Or.inl ⟨by first | kernel_rfl | rfl, ?_⟩) (by assumption) ?_; rotate_left; focus (intro w hSw; (try dsimp only at hSw); go_simp; try (with_reducible rfl)); (try simp only [Act.put, List.getElem_toArray, List.getElem_cons_succ, List.getElem_cons_zero, List.setIfInBounds_toArray, List.set_cons_zero, List.set_cons_succ])
  refine wpAnyH_take (i := 4) (v := ?_) rfl (by kernel_rfl) (by kernel_rfl) (by kernel_rfl) (fun _ _ _ h => h) (Or.inl ⟨by first | kernel_rfl | rfl, ?_⟩) (by assumption) ?_; rotate_left; focus (intro w hSw; (try dsimp only at hSw); go_simp; try (with_reducible rfl)); (try simp only [Act.put, List.getElem_toArray, List.getElem_cons_succ, List.getElem_cons_zero, List.setIfInBounds_toArray, List.set_cons_zero, List.set_cons_succ])
  refine wpAnyH_take (i := 5) (v := ?_) rfl (by kernel_rfl) (by kernel_rfl) (by kernel_rfl) (fun _ _ _ h => h) (Or.inl ⟨by first | kernel_rfl | rfl, ?_⟩) (by assumption) ?_; rotate_left; focus (intro w hSw; (try dsimp only at hSw); go_simp; try (with_reducible rfl)); (try simp only [Act.put, List.getElem_toArray, List.getElem_cons_succ, List.getElem_cons_zero, List.setIfInBounds_toArray, List.set_cons_zero, List.set_cons_succ])
  refine wpAnyH_ready (rs := [1]) (by kernel_rfl) (by simp) ?_
  refine AllReadyH.cons rfl (fun K hK => ?_) AllReadyH.nil
  go_simp
  go_at_call 54
  refine HLd.out.mono ?_
  rintro e wa ⟨rfl, rfl⟩
  (try go_wp2_with fail)
  refine hK.out _ _ HS9.out (fun _ => ?_)
  clear hK K
  (try simp only [Act.put, List.getElem_toArray, List.getElem_cons_succ, List.getElem_cons_zero, List.setIfInBounds_toArray, List.set_cons_zero, List.set_cons_succ])
  refine wpAnyH_take (i := 6) (v := ?_) rfl (by kernel_rfl) (by kernel_rfl) (by kernel_rfl) (fun _ _ _ h => h) (Or.inl ⟨by first | kernel_rfl | rfl, ?_⟩) (by assumption) ?_; rotate_left; focus (intro w hSw; (try dsimp only at hSw); go_simp; try (with_reducible rfl)); (try simp only [Act.put, List.getElem_toArray, List.getElem_cons_succ, List.getElem_cons_zero, List.setIfInBounds_toArray, List.set_cons_zero, List.set_cons_succ])
  refine wpAnyH_done (by kernel_rfl) ?_ _
  (try simp only [Act.put, List.getElem_toArray, List.getElem_cons_succ, List.getElem_cons_zero, List.setIfInBounds_toArray, List.set_cons_zero, List.set_cons_succ])
  obtain ⟨w2, hw2⟩ : ∃ x, x = w1.drew := ⟨_, rfl⟩
  have k12 : Keeps (fun _ => False) w1 w2 := by rw [hw2]; exact (Keeps.refl _ _).drew
  have H2 := hide (H1.out.quiet k12)
  have HA2 := hide (HA1.out.quiet k12)
  have K2 := hide (K1.out.trans k12)
  rw [← hw2]
  clear hw2 k12 H1 HA1 K1 hHeld HS9 HLd
  go_wp2_with fail
  go_ret2
  exact ⟨rfl, K2.out⟩
/-- the bounds that the reference's Alloc wants -/
def Sized (s : Ar) : Prop := s.cls.length ≤ 8 ∧ ∀ (i : Nat) (c : Cls), s.cls[i]? = some c → (c.slots.length : Int) ≤ c.count ∧ c.count ≤ 65536 ∧ 1 ≤ c.size ∧ c.size ≤ 4096
set_option maxRecDepth 100000 in
set_option maxHeartbeats 1000000 in
theorem rpintern_noal (h : IsRP w F p b n E ρ) (hz : ∃ e, E[0]? = some e ∧ e.users = 0) (hE : E.length ≤ 1000000) (t : ByteArray) (h0 : 1 ≤ t.size) (h1 : t.size ≤ 255) (hno : NoKey E t.data.toList) (hfull : (cntU E : Int) ≠ n)
    (hF : ∀ k, F k → k < w.heap.size) (h5 : ρ.slots.length ≤ 1000000) (h6 : ρ.free.length ≤ 1000000) {s s' : Ar} {L L' : Nat → List Nat} (hrel : Rel s L ρ) (hsz : Sized s) {c k g er : Int} (hal : AllocP s L t.size c k g er s' L') (her : er ≠ 0) :
    Calls Try.prog 50 #[.pointer (some ⟨p, 0, none⟩), .string t] w fun e w' => e = .returned (.tuple #[.int .i64 0, .int .i64 er]) ∧ (∃ ρ', IsRP w' F p b n E ρ' ∧ Rel s' L' ρ' ∧ ρ'.slots.length ≤ ρ.slots.length + 1 ∧ ρ'.free.length ≤ ρ.free.length) ∧ Keeps (RPS F w) w w' := by
  have HF := hide hF
  have H56 := hide (And.intro h5 h6)
  have HRel := hide hrel
  have HSz := hide hsz
  have HAl := hide hal
  clear hF h5 h6 hrel hsz hal
  have hlen : t.data.toList.length = t.size := by rw [Array.length_toList]; rfl
  have hne : t.toList.isEmpty = false := by
    rw [ByteArray.toList_eq]
    rcases hx : t.data.toList with _ | _
    · rw [hx] at hlen; simp at hlen; omega
    · rfl
  have e1 : decide ((255 : Int) < (t.size : Int)) = false := by simp; omega
  obtain ⟨KA, kc, UA, uc, TA, tc, h, hA⟩ := h
  have HFd := hide (rpfind_any h hz hE t)
  have HLn := hide (fun (wx : World) (kx : Keeps (fun _ => False) w wx) => rplen_any (h.quiet kx) hE)
  obtain ⟨N, hN⟩ : ∃ N, N = E.length := ⟨_, rfl⟩
  obtain ⟨cn, hcn⟩ : ∃ cn, cn = cntU E := ⟨_, rfl⟩
  rw [← hcn] at HLn
  have hEN : N ≤ 1000000 := by omega
  have H := hide h
  have HA := hide hA
  have HN := hide hN
  have HCn := hide hcn
  have HNo := hide hno
  clear h hA hN hz hE hcn hno
  have hfb : ((cn : Int) == n) = false := by rw [HCn.out]; simpa using hfull
  have herb : (er == 0) = false := by simpa using her
  clear hfull her
  go_enter Try.func50, Try.ntmps50
  go_wp2_with fail
  refine HFd.out.mono ?_
  rintro e w1 ⟨hf, k1⟩
  obtain rfl : e = .returned (.tuple #[.int .i64 0, .int .i64 0]) := by
    rcases hf with ⟨j, y, hj1, hj, hju, hjk, rfl⟩ | ⟨_, h1⟩
    · exact absurd hjk (HNo.out j y hj hju)
    · exact h1
  have H1 := hide (H.out.quiet k1)
  have HA1 := hide (HA.out.quiet k1)
  have K1 := hide k1
  clear hf k1 HFd H HA
  go_upto_region 9 with fail
  trace "R9"
  obtain ⟨⟨c0, c1, c2, c3, c4⟩, hpl⟩ := H1.out.cells N HN.out
  have HS9 : Hid (w1.drew.cell? ⟨p, 1, none⟩ = some (.int .i64 n)) := hide c1
  have HLd := hide (HLn.out w1.drew (K1.out.trans ((Keeps.refl _ _).drew)))
  clear c0 c1 c2 c3 c4 hpl HLn
  refine wp_region_held_drew (S := fun W => W.cell? ⟨p, 1, none⟩ = some (.int .i64 n)) (by kernel_rfl) HS9.out (fun hHeld => ?_)
  refine wpAnyH_take (i := 0) (v := ?_) rfl (by kernel_rfl) (by kernel_rfl) (by kernel_rfl) (fun _ _ _ h => h) (Or.inl ⟨by first | kernel_rfl | rfl, ?_⟩) (by assumption) ?_; rotate_left; focus (intro w hSw; (try dsimp only at hSw); go_simp; try (with_reducible rfl)); (try simp only [Act.put, List.getElem_toArray, List.getElem_cons_succ, List.getElem_cons_zero, List.setIfInBounds_toArray, List.set_cons_zero, List.set_cons_succ])
  refine wpAnyH_take (i := 2) (v := ?_) rfl (by kernel_rfl) (by kernel_rfl) (by kernel_rfl) (fun _ _ _ h => h) (Or.inl ⟨by first | kernel_rfl | rfl, ?_⟩) (by assumption) ?_; rotate_left; focus (intro w hSw; (try dsimp only at hSw); go_simp; try (with_reducible rfl)); (try simp only [Act.put, List.getElem_toArray, List.getElem_cons_succ, List.getElem_cons_zero, List.setIfInBounds_toArray, List.set_cons_zero, List.set_cons_succ])
  refine wpAnyH_take (i := 3) (v := ?_) rfl (by kernel_rfl) (by kernel_rfl) (by kernel_rfl) (fun _ _ _ h => h) (Or.inl ⟨by first | kernel_rfl | rfl, ?_⟩) (by assumption) ?_; rotate_left; focus (intro w hSw; (try dsimp only at hSw); go_simp; try (with_reducible rfl)); (try simp only [Act.put, List.getElem_toArray, List.getElem_cons_succ, List.getElem_cons_zero, List.setIfInBounds_toArray, List.set_cons_zero, List.set_cons_succ])
  refine wpAnyH_take (i := 4) (v := ?_) rfl (by kernel_rfl) (by kernel_rfl) (by kernel_rfl) (fun _ _ _ h => h) (Or.inl ⟨by first | kernel_rfl | rfl, ?_⟩) (by assumption) ?_; rotate_left; focus (intro w hSw; (try dsimp only at hSw); go_simp; try (with_reducible rfl)); (try simp only [Act.put, List.getElem_toArray, List.getElem_cons_succ, List.getElem_cons_zero, List.setIfInBounds_toArray, List.set_cons_zero, List.set_cons_succ])
  refine wpAnyH_take (i := 5) (v := ?_) rfl (by kernel_rfl) (by kernel_rfl) (by kernel_rfl) (fun _ _ _ h => h) (Or.inl ⟨by first | kernel_rfl | rfl, ?_⟩) (by assumption) ?_; rotate_left; focus (intro w hSw; (try dsimp only at hSw); go_simp; try (with_reducible rfl)); (try simp only [Act.put, List.getElem_toArray, List.getElem_cons_succ, List.getElem_cons_zero, List.setIfInBounds_toArray, List.set_cons_zero, List.set_cons_succ])
  refine wpAnyH_ready (rs := [1]) (by kernel_rfl) (by simp) ?_
  refine AllReadyH.cons rfl (fun K hK => ?_) AllReadyH.nil
  go_simp
  go_at_call 54
  refine HLd.out.mono ?_
  rintro e wa ⟨rfl, rfl⟩
  (try go_wp2_with fail)
  refine hK.out _ _ HS9.out (fun _ => ?_)
  clear hK K
  (try simp only [Act.put, List.getElem_toArray, List.getElem_cons_succ, List.getElem_cons_zero, List.setIfInBounds_toArray, List.set_cons_zero, List.set_cons_succ])
  refine wpAnyH_take (i := 6) (v := ?_) rfl (by kernel_rfl) (by kernel_rfl) (by kernel_rfl) (fun _ _ _ h => h) (Or.inl ⟨by first | kernel_rfl | rfl, ?_⟩) (by assumption) ?_; rotate_left; focus (intro w hSw; (try dsimp only at hSw); go_simp; try (with_reducible rfl)); (try simp only [Act.put, List.getElem_toArray, List.getElem_cons_succ, List.getElem_cons_zero, List.setIfInBounds_toArray, List.set_cons_zero, List.set_cons_succ])
  refine wpAnyH_done (by kernel_rfl) ?_ _
  (try simp only [Act.put, List.getElem_toArray, List.getElem_cons_succ, List.getElem_cons_zero, List.setIfInBounds_toArray, List.set_cons_zero, List.set_cons_succ])
  obtain ⟨w2, hw2⟩ : ∃ x, x = w1.drew := ⟨_, rfl⟩
  have k12 : Keeps (fun _ => False) w1 w2 := by rw [hw2]; exact (Keeps.refl _ _).drew
  have H2 := hide (H1.out.quiet k12)
  have HA2 := hide (HA1.out.quiet k12)
  have K2 := hide (K1.out.trans k12)
  rw [← hw2]
  clear hw2 k12 H1 HA1 K1 hHeld HS9 HLd
  have HGG : Hid (∀ q, RG F p KA UA TA q → q < w2.heap.size) := hide (fun q hq => by
    rcases hq with hq | hq | hq | hq | hq
    · have := HF.out q hq; have := K2.out.size; omega
    · rw [hq]; exact H2.out.blk.lt
    · exact (H2.out.ks.inB hq).2
    · exact (H2.out.us.inB hq).2
    · exact (H2.out.ts.inB hq).2)
  obtain ⟨⟨c0, c1, c2, c3, c4⟩, hpl⟩ := H2.out.cells N HN.out
  go_wp2_with fail
  trace "ALLOC"
  refine (ref_alloc HAl.out HRel.out HSz.out.1 HSz.out.2 HA2.out H56.out.1 H56.out.2 HGG.out).mono ?_
  rintro e w3 ⟨rfl, ⟨ρ', ra3, rel3, l1, l2⟩, k3⟩
  obtain ⟨gh, hgh⟩ : ∃ gh, gh = w3.heap.size := ⟨_, rfl⟩
  have hb := (Keeps.refl (fun _ => False) w3).alloc (.cells #[.int .i64 c, .int .i64 k, .int .i64 g] 40)
  have H3 := hide ((H2.out.arena k3).quiet hb)
  have R3 := hide (ra3.quiet hb)
  have K3 := hide ((RPS.quiet K2.out (k3.weak (S' := RPS F w2) (fun _ _ h => RS.rps h))).step0 hb)
  have HRel3 := hide rel3
  have HLL := hide (And.intro l1 l2)
  clear hgh ra3 rel3 l1 l2 k3 hb H2 HA2 K2 HGG c0 c1 c2 c3 c4 hpl HF H56 HRel HSz HAl
  go_wp2_with fail
  trace "NOAL"
  go_ret2
  exact ⟨rfl, ⟨ρ', ⟨_, _, _, _, _, _, H3.out, R3.out⟩, HRel3.out, HLL.out.1, HLL.out.2⟩, K3.out⟩
end
end Go.Proofs.Ytidobhflijdccaa

set_option linter.unusedVariables false
set_option linter.unusedSimpArgs false
namespace Go.Proofs.Ytidobhflijdccaa
open Go.RowKit Cfp
section
variable {w : World} {F : Nat → Prop} {p b : Nat} {n : Int} {E : List PE} {ρ : RA}
set_option maxRecDepth 1000000 in
set_option maxHeartbeats 4000000 in
theorem rpintern_new (h : IsRP w F p b n E ρ) (hz : ∃ e, E[0]? = some e ∧ e.users = 0) (hE : E.length ≤ 1000000) (t : ByteArray) (h0 : 1 ≤ t.size) (h1 : t.size ≤ 255) (hno : NoKey E t.data.toList) (hfull : (cntU E : Int) ≠ n)
    (hF : ∀ k, F k → k < w.heap.size) (h5 : ρ.slots.length ≤ 1000000) (h6 : ρ.free.length ≤ 1000000) {s s' : Ar} {L L' : Nat → List Nat} (hrel : Rel s L ρ) (hsz : Sized s) {hi hk : Nat} {ha : Int} (hal : AllocP s L t.size hi hk ha 0 s' L')
    (id : Nat) (hid1 : 1 ≤ id) (x : PE) (hx : E[id]? = some x) (hu : x.users = 0) (hleast : ∀ (j : Nat) (y : PE), 1 ≤ j → j < id → E[j]? = some y → 0 < y.users) :
    Calls Try.prog 50 #[.pointer (some ⟨p, 0, none⟩), .string t] w fun e w' => e = .returned (.tuple #[.int .i64 id, .int .i64 0]) ∧ (∃ ρ', IsRP w' F p b n (E.set id ⟨(hi, hk, ha), t.data.toList, 1⟩) ρ' ∧ Rel s' L' ρ' ∧ ρ'.slots.length ≤ ρ.slots.length + 1 ∧ ρ'.free.length ≤ ρ.free.length) ∧ Keeps (RPS F w) w w' := by
  have HX := hide hx
  have HU0 := hide hu
  have hidE : id < E.length := (List.getElem?_eq_some_iff.1 hx).1
  clear hx hu
  have HF := hide hF
  have H56 := hide (And.intro h5 h6)
  have HRel := hide hrel
  have HSz := hide hsz
  have HAl := hide hal
  have HLe := hide hleast
  clear hF h5 h6 hrel hsz hal hleast
  have hlen : t.data.toList.length = t.size := by rw [Array.length_toList]; rfl
  have hne : t.toList.isEmpty = false := by
    rw [ByteArray.toList_eq]
    rcases hx : t.data.toList with _ | _
    · rw [hx] at hlen; simp at hlen; omega
    · rfl
  have e1 : decide ((255 : Int) < (t.size : Int)) = false := by simp; omega
  obtain ⟨KA, kc, UA, uc, TA, tc, h, hA⟩ := h
  have HFd := hide (rpfind_any h hz hE t)
  have HLn := hide (fun (wx : World) (kx : Keeps (fun _ => False) w wx) => rplen_any (h.quiet kx) hE)
  obtain ⟨N, hN⟩ : ∃ N, N = E.length := ⟨_, rfl⟩
  obtain ⟨cn, hcn⟩ : ∃ cn, cn = cntU E := ⟨_, rfl⟩
  rw [← hcn] at HLn
  have hEN : N ≤ 1000000 := by omega
  have H := hide h
  have HA := hide hA
  have HN := hide hN
  have HCn := hide hcn
  have HNo := hide hno
  clear h hA hN hz hE hcn hno
  have hfb : ((cn : Int) == n) = false := by rw [HCn.out]; simpa using hfull
  clear hfull
  go_enter Try.func50, Try.ntmps50
  go_wp2_with fail
  refine HFd.out.mono ?_
  rintro e w1 ⟨hf, k1⟩
  obtain rfl : e = .returned (.tuple #[.int .i64 0, .int .i64 0]) := by
    rcases hf with ⟨j, y, hj1, hj, hju, hjk, rfl⟩ | ⟨_, h1⟩
    · exact absurd hjk (HNo.out j y hj hju)
    · exact h1
  have H1 := hide (H.out.quiet k1)
  have HA1 := hide (HA.out.quiet k1)
  have K1 := hide k1
  clear hf k1 HFd H HA
  go_upto_region 9 with fail
  trace "R9"
  obtain ⟨⟨c0, c1, c2, c3, c4⟩, hpl⟩ := H1.out.cells N HN.out
  have HS9 : Hid (w1.drew.cell? ⟨p, 1, none⟩ = some (.int .i64 n)) := hide c1
  have HLd := hide (HLn.out w1.drew (K1.out.trans ((Keeps.refl _ _).drew)))
  clear c0 c1 c2 c3 c4 hpl HLn
  refine wp_region_held_drew (S := fun W => W.cell? ⟨p, 1, none⟩ = some (.int .i64 n)) (by kernel_rfl) HS9.out (fun hHeld => ?_)
  refine wpAnyH_take (i := 0) (v := ?_) rfl (by kernel_rfl) (by kernel_rfl) (by kernel_rfl) (fun _ _ _ h => h) (Or.inl ⟨by first | kernel_rfl | rfl, ?_⟩) (by assumption) ?_; rotate_left; focus (intro w hSw; (try dsimp only at hSw); go_simp; try (with_reducible rfl)); (try simp only [Act.put, List.getElem_toArray, List.getElem_cons_succ, List.getElem_cons_zero, List.setIfInBounds_toArray, List.set_cons_zero, List.set_cons_succ])
  refine wpAnyH_take (i := 2) (v := ?_) rfl (by kernel_rfl) (by kernel_rfl) (by kernel_rfl) (fun _ _ _ h => h) (Or.inl ⟨by first | kernel_rfl | rfl, ?_⟩) (by assumption) ?_; rotate_left; focus (intro w hSw; (try dsimp only at hSw); go_simp; try (with_reducible rfl)); (try simp only [Act.put, List.getElem_toArray, List.getElem_cons_succ, List.getElem_cons_zero, List.setIfInBounds_toArray, List.set_cons_zero, List.set_cons_succ])
  refine wpAnyH_take (i := 3) (v := ?_) rfl (by kernel_rfl) (by kernel_rfl) (by kernel_rfl) (fun _ _ _ h => h) (Or.inl ⟨by first | kernel_rfl | rfl, ?_⟩) (by assumption) ?_; rotate_left; focus (intro w hSw; (try dsimp only at hSw); go_simp; try (with_reducible rfl)); (try simp only [Act.put, List.getElem_toArray, List.getElem_cons_succ, List.getElem_cons_zero, List.setIfInBounds_toArray, List.set_cons_zero, List.set_cons_succ])
  refine wpAnyH_take (i := 4) (v := ?_) rfl (by kernel_rfl) (by kernel_rfl) (by kernel_rfl) (fun _ _ _ h => h) (Or.inl ⟨by first | kernel_rfl | rfl, ?_⟩) (by assumption) ?_; rotate_left; focus (intro w hSw; (try dsimp only at hSw); go_simp; try (with_reducible rfl)); (try simp only [Act.put, List.getElem_toArray, List.getElem_cons_succ, List.getElem_cons_zero, List.setIfInBounds_toArray, List.set_cons_zero, List.set_cons_succ])
  refine wpAnyH_take (i := 5) (v := ?_) rfl (by kernel_rfl) (by kernel_rfl) (by kernel_rfl) (fun _ _ _ h => h) (Or.inl ⟨by first | kernel_rfl | rfl, ?_⟩) (by assumption) ?_; rotate_left; focus (intro w hSw; (try dsimp only at hSw); go_simp; try (with_reducible rfl)); (try simp only [Act.put, List.getElem_toArray, List.getElem_cons_succ, List.getElem_cons_zero, List.setIfInBounds_toArray, List.set_cons_zero, List.set_cons_succ])
  refine wpAnyH_ready (rs := [1]) (by kernel_rfl) (by simp) ?_
  refine AllReadyH.cons rfl (fun K hK => ?_) AllReadyH.nil
  go_simp
  go_at_call 54
  refine HLd.out.mono ?_
  rintro e wa ⟨rfl, rfl⟩
  (try go_wp2_with fail)
  refine hK.out _ _ HS9.out (fun _ => ?_)
  clear hK K
  (try simp only [Act.put, List.getElem_toArray, List.getElem_cons_succ, List.getElem_cons_zero, List.setIfInBounds_toArray, List.set_cons_zero, List.set_cons_succ])
  refine wpAnyH_take (i := 6) (v := ?_) rfl (by kernel_rfl) (by kernel_rfl) (by kernel_rfl) (fun _ _ _ h => h) (Or.inl ⟨by first | kernel_rfl | rfl, ?_⟩) (by assumption) ?_; rotate_left; focus (intro w hSw; (try dsimp only at hSw); go_simp; try (with_reducible rfl)); (try simp only [Act.put, List.getElem_toArray, List.getElem_cons_succ, List.getElem_cons_zero, List.setIfInBounds_toArray, List.set_cons_zero, List.set_cons_succ])
  refine wpAnyH_done (by kernel_rfl) ?_ _
  (try simp only [Act.put, List.getElem_toArray, List.getElem_cons_succ, List.getElem_cons_zero, List.setIfInBounds_toArray, List.set_cons_zero, List.set_cons_succ])
  obtain ⟨w2, hw2⟩ : ∃ x, x = w1.drew := ⟨_, rfl⟩
  have k12 : Keeps (fun _ => False) w1 w2 := by rw [hw2]; exact (Keeps.refl _ _).drew
  have H2 := hide (H1.out.quiet k12)
  have HA2 := hide (HA1.out.quiet k12)
  have K2 := hide (K1.out.trans k12)
  rw [← hw2]
  clear hw2 k12 H1 HA1 K1 hHeld HS9 HLd
  have HGG : Hid (∀ q, RG F p KA UA TA q → q < w2.heap.size) := hide (fun q hq => by
    rcases hq with hq | hq | hq | hq | hq
    · have := HF.out q hq; have := K2.out.size; omega
    · rw [hq]; exact H2.out.blk.lt
    · exact (H2.out.ks.inB hq).2
    · exact (H2.out.us.inB hq).2
    · exact (H2.out.ts.inB hq).2)
  obtain ⟨⟨c0, c1, c2, c3, c4⟩, hpl⟩ := H2.out.cells N HN.out
  go_wp2_with fail
  trace "ALLOC"
  refine (ref_alloc HAl.out HRel.out HSz.out.1 HSz.out.2 HA2.out H56.out.1 H56.out.2 HGG.out).mono ?_
  rintro e w3 ⟨rfl, ⟨ρ', ra3, rel3, l1, l2⟩, k3⟩
  obtain ⟨gh, hgh⟩ : ∃ gh, gh = w3.heap.size := ⟨_, rfl⟩
  have hb := (Keeps.refl (fun _ => False) w3).alloc (.cells #[.int .i64 hi, .int .i64 hk, .int .i64 ha] 40)
  have r3 : IsRP w3 F p b n E ρ' := ⟨_, _, _, _, _, _, H2.out.arena k3, ra3⟩
  have r4 := (r3.for (F' := fun q => F q ∨ q = gh) (fun q hq e => by rcases e with e | e; exact e; omega)).quiet hb
  have HG4 := hide (Blk.new_at w3 40 #[.int .i64 hi, .int .i64 hk, .int .i64 ha] gh hgh)
  have K4 := hide ((RPS.quiet K2.out (k3.weak (S' := RPS F w2) (fun _ _ h => RS.rps h))).step0 hb)
  obtain ⟨w4, hw4⟩ : ∃ x, x = w3.alloc (.cells #[.int .i64 hi, .int .i64 hk, .int .i64 ha] 40) := ⟨_, rfl⟩
  rw [← hw4] at r4 HG4 K4
  have HF4 : Hid (∀ q, (F q ∨ q = gh) → q < w4.heap.size) := hide (fun q e => by
    rcases e with e | e
    · have := HF.out q e; have := K4.out.size; omega
    · subst e; exact HG4.out.lt)
  have HRel3 := hide rel3
  have HLL := hide (And.intro l1 l2)
  have HGH := hide hgh
  have HW4 := hide hw4
  clear hgh hw4 ra3 rel3 l1 l2 k3 hb r3 H2 HA2 K2 HGG HF H56 HRel HSz HAl
  go_upto_region 12 with fail
  rw [← HW4.out, ← HGH.out]
  clear HW4 HGH c0 c1 c2 c3 c4 hpl KA kc UA uc TA tc
  obtain ⟨KA, kc, UA, uc, TA, tc, h4, a4⟩ := r4
  obtain ⟨⟨c0, c1, c2, c3, c4⟩, hpl⟩ := h4.cells N HN.out
  have hus := h4.us
  rw [← HN.out] at hus
  have hIN : id ≤ N := by have := HN.out; omega
  have hN0 : 0 < N := by have := HN.out; omega
  obtain ⟨gu, rfl, _, hgu⟩ := hus.some_ hN0
  have HUS := hide hus
  have H4 := hide h4
  have A4 := hide a4
  clear h4 a4 hus
  go_upto_region 15 with fail
  trace "LOOP"
  go_loopw [10] (fun iv wr => ∃ i : Nat, 1 ≤ i ∧ i ≤ id ∧ iv = .int .i64 (i : Int) ∧ wr = w4) (fun iv _ => id - (intOf iv).toNat)
  case atStart => exact ⟨1, by omega, by omega, rfl, rfl⟩
  case round =>
    obtain ⟨i, hi1, hi2, rfl, rfl⟩ := hrel
    by_cases hlt : i < id
    · have e1 : decide ((i : Int) < (N : Int)) = true := by simp; omega
      obtain ⟨y, hy⟩ : ∃ y, E[i]? = some y := ⟨E[i]'(by rw [← HN.out]; omega), List.getElem?_eq_getElem _⟩
      have q1 := HUS.out.cell i (by omega)
      rw [usCs_at hy] at q1
      have hiI : (i : Int) < (N : Int) := by omega
      have hi00 : (0 : Int) ≤ (i : Int) := by omega
      have e2 : decide ((0 : Int) < y.users) = true := by have := HLe.out i y hi1 hlt hy; simpa using this
      clear hy
      go_wp2_with fail
      go_roundw
      case rel => exact ⟨i + 1, by omega, by omega, by go_num, by trivial⟩
      case measure => simp [intOf]; omega
    obtain rfl : i = id := by omega
    obtain ⟨w4, rfl⟩ : ∃ x : World, x = wr := ⟨_, rfl⟩
    have e1 : decide ((i : Int) < (N : Int)) = true := by simp; have := HN.out; omega
    have q1 := HUS.out.cell i (by have := HN.out; omega)
    rw [usCs_at HX.out, HU0.out] at q1
    have hiI : (i : Int) < (N : Int) := by have := HN.out; omega
    have hi00 : (0 : Int) ≤ (i : Int) := by omega
    have hq : ((i : Int) == (N : Int)) = false := by simp; have := HN.out; omega
    have hqn : (i == N) = false := by simp; have := HN.out; omega
    have hEN1 : Hid (E.length ≤ 1000001) := hide (by have := HN.out; omega)
    go_upto_region 17 with fail
    go_upto_region 19 with fail
    trace "R19"
    refine Code.wp_mono ?_ (poolGrow.reg19 H4.out A4.out hEN1.out i x HX.out t gh (hi, hk, ha) HG4.out (Or.inr rfl) _ _ _ _ _ _ _ _ _ _ _ _ _ _ _ _ _ _ _ _ _ _ _ _ _ _ _ _ _ _ _ _ _ _ _ _ _ _ _ _ _ _ _ _ _ _ _ _ _ _ _ _ _ _ _ _ _ _ _ _ _ _ _ _ _ _ _ _ _ _ _ _ _ _ _ _ _ _ _ _ _ _ _ _ _ _ _ _ _ _ _ _ _ _ _ _ _ _ _ _ _ _ _ _ _ _ _ _ _ _ _ _ _ _ _ _ _ _ _ _ _ _ _ _ _)
    intro e a' w9 hex
    cases e <;> (first | exact hex.elim | skip)
    obtain ⟨⟨v108, v109, v110, v111, v112, v113, v114, v115, v116, v117, v118, v119, v120, v121, v122, v123, v124, v125, v126, v127, rfl⟩, ip9, kp9⟩ := hex
    have I9 := hide (ip9.for (F' := F) (fun q _ e => .inl e))
    have K9 := hide (RPS.trans K4.out (kp9.weak (S' := RPS F w4) (fun _ _ h => RPS.less (fun q e => .inl e) h)))
    clear ip9 kp9
    dsimp only
    go_wp2_with fail
    trace "DONE"
    go_ret2
    exact ⟨rfl, ⟨ρ', I9.out, HRel3.out, HLL.out.1, HLL.out.2⟩, K9.out⟩
set_option maxRecDepth 1000000 in
set_option maxHeartbeats 4000000 in
theorem rpintern_grow (h : IsRP w F p b n E ρ) (hz : ∃ e, E[0]? = some e ∧ e.users = 0) (hE : E.length ≤ 1000000) (t : ByteArray) (h0 : 1 ≤ t.size) (h1 : t.size ≤ 255) (hno : NoKey E t.data.toList) (hfull : (cntU E : Int) ≠ n)
    (hF : ∀ k, F k → k < w.heap.size) (h5 : ρ.slots.length ≤ 1000000) (h6 : ρ.free.length ≤ 1000000) {s s' : Ar} {L L' : Nat → List Nat} (hrel : Rel s L ρ) (hsz : Sized s) {hi hk : Nat} {ha : Int} (hal : AllocP s L t.size hi hk ha 0 s' L')
    (id : Nat) (hid1 : 1 ≤ id) (hidE : id = E.length) (hleast : ∀ (j : Nat) (y : PE), 1 ≤ j → j < id → E[j]? = some y → 0 < y.users) :
    Calls Try.prog 50 #[.pointer (some ⟨p, 0, none⟩), .string t] w fun e w' => e = .returned (.tuple #[.int .i64 id, .int .i64 0]) ∧ (∃ ρ', IsRP w' F p b n ((E ++ [PE.zero]).set id ⟨(hi, hk, ha), t.data.toList, 1⟩) ρ' ∧ Rel s' L' ρ' ∧ ρ'.slots.length ≤ ρ.slots.length + 1 ∧ ρ'.free.length ≤ ρ.free.length) ∧ Keeps (RPS F w) w w' := by
  have HI := hide hidE
  have hidN : id ≤ E.length := by omega
  have hE0 : 0 < E.length := by obtain ⟨y, h2, _⟩ := hz; exact (List.getElem?_eq_some_iff.1 h2).1
  clear hidE
  have HF := hide hF
  have H56 := hide (And.intro h5 h6)
  have HRel := hide hrel
  have HSz := hide hsz
  have HAl := hide hal
  have HLe := hide hleast
  clear hF h5 h6 hrel hsz hal hleast
  have hlen : t.data.toList.length = t.size := by rw [Array.length_toList]; rfl
  have hne : t.toList.isEmpty = false := by
    rw [ByteArray.toList_eq]
    rcases hx : t.data.toList with _ | _
    · rw [hx] at hlen; simp at hlen; omega
    · rfl
  have e1 : decide ((255 : Int) < (t.size : Int)) = false := by simp; omega
  obtain ⟨KA, kc, UA, uc, TA, tc, h, hA⟩ := h
  have HFd := hide (rpfind_any h hz hE t)
  have HLn := hide (fun (wx : World) (kx : Keeps (fun _ => False) w wx) => rplen_any (h.quiet kx) hE)
  obtain ⟨N, hN⟩ : ∃ N, N = E.length := ⟨_, rfl⟩
  obtain ⟨cn, hcn⟩ : ∃ cn, cn = cntU E := ⟨_, rfl⟩
  rw [← hcn] at HLn
  have hEN : N ≤ 1000000 := by omega
  have H := hide h
  have HA := hide hA
  have HN := hide hN
  have HCn := hide hcn
  have HNo := hide hno
  clear h hA hN hz hE hcn hno
  have hfb : ((cn : Int) == n) = false := by rw [HCn.out]; simpa using hfull
  clear hfull
  go_enter Try.func50, Try.ntmps50
  go_wp2_with fail
  refine HFd.out.mono ?_
  rintro e w1 ⟨hf, k1⟩
  obtain rfl : e = .returned (.tuple #[.int .i64 0, .int .i64 0]) := by
    rcases hf with ⟨j, y, hj1, hj, hju, hjk, rfl⟩ | ⟨_, h1⟩
    · exact absurd hjk (HNo.out j y hj hju)
    · exact h1
  have H1 := hide (H.out.quiet k1)
  have HA1 := hide (HA.out.quiet k1)
  have K1 := hide k1
  clear hf k1 HFd H HA
  go_upto_region 9 with fail
  trace "R9"
  obtain ⟨⟨c0, c1, c2, c3, c4⟩, hpl⟩ := H1.out.cells N HN.out
  have HS9 : Hid (w1.drew.cell? ⟨p, 1, none⟩ = some (.int .i64 n)) := hide c1
  have HLd := hide (HLn.out w1.drew (K1.out.trans ((Keeps.refl _ _).drew)))
  clear c0 c1 c2 c3 c4 hpl HLn
  refine wp_region_held_drew (S := fun W => W.cell? ⟨p, 1, none⟩ = some (.int .i64 n)) (by kernel_rfl) HS9.out (fun hHeld => ?_)
  refine wpAnyH_take (i := 0) (v := ?_) rfl (by kernel_rfl) (by kernel_rfl) (by kernel_rfl) (fun _ _ _ h => h) (Or.inl ⟨by first | kernel_rfl | rfl, ?_⟩) (by assumption) ?_; rotate_left; focus (intro w hSw; (try dsimp only at hSw); go_simp; try (with_reducible rfl)); (try simp only [Act.put, List.getElem_toArray, List.getElem_cons_succ, List.getElem_cons_zero, List.setIfInBounds_toArray, List.set_cons_zero, List.set_cons_succ])
  refine wpAnyH_take (i := 2) (v := ?_) rfl (by kernel_rfl) (by kernel_rfl) (by kernel_rfl) (fun _ _ _ h => h) (Or.inl ⟨by first | kernel_rfl | rfl, ?_⟩) (by assumption) ?_; rotate_left; focus (intro w hSw; (try dsimp only at hSw); go_simp; try (with_reducible rfl)); (try simp only [Act.put, List.getElem_toArray, List.getElem_cons_succ, List.getElem_cons_zero, List.setIfInBounds_toArray, List.set_cons_zero, List.set_cons_succ])
  refine wpAnyH_take (i := 3) (v := ?_) rfl (by kernel_rfl) (by kernel_rfl) (by kernel_rfl) (fun _ _ _ h => h) (Or.inl ⟨by first | kernel_rfl | rfl, ?_⟩) (by assumption) ?_; rotate_left; focus (intro w hSw; (try dsimp only at hSw); go_simp; try (with_reducible rfl)); (try simp only [Act.put, List.getElem_toArray, List.getElem_cons_succ, List.getElem_cons_zero, List.setIfInBounds_toArray, List.set_cons_zero, List.set_cons_succ])
  refine wpAnyH_take (i := 4) (v := ?_) rfl (by kernel_rfl) (by kernel_rfl) (by kernel_rfl) (fun _ _ _ h => h) (Or.inl ⟨by first | kernel_rfl | rfl, ?_⟩) (by assumption) ?_; rotate_left; focus (intro w hSw; (try dsimp only at hSw); go_simp; try (with_reducible rfl)); (try simp only [Act.put, List.getElem_toArray, List.getElem_cons_succ, List.getElem_cons_zero, List.setIfInBounds_toArray, List.set_cons_zero, List.set_cons_succ])
  refine wpAnyH_take (i := 5) (v := ?_) rfl (by kernel_rfl) (by kernel_rfl) (by kernel_rfl) (fun _ _ _ h => h) (Or.inl ⟨by first | kernel_rfl | rfl, ?_⟩) (by assumption) ?_; rotate_left; focus (intro w hSw; (try dsimp only at hSw); go_simp; try (with_reducible rfl)); (try simp only [Act.put, List.getElem_toArray, List.getElem_cons_succ, List.getElem_cons_zero, List.setIfInBounds_toArray, List.set_cons_zero, List.set_cons_succ])
  refine wpAnyH_ready (rs := [1]) (by kernel_rfl) (by simp) ?_
  refine AllReadyH.cons rfl (fun K hK => ?_) AllReadyH.nil
  go_simp
  go_at_call 54
  refine HLd.out.mono ?_
  rintro e wa ⟨rfl, rfl⟩
  (try go_wp2_with fail)
  refine hK.out _ _ HS9.out (fun _ => ?_)
  clear hK K
  (try simp only [Act.put, List.getElem_toArray, List.getElem_cons_succ, List.getElem_cons_zero, List.setIfInBounds_toArray, List.set_cons_zero, List.set_cons_succ])
  refine wpAnyH_take (i := 6) (v := ?_) rfl (by kernel_rfl) (by kernel_rfl) (by kernel_rfl) (fun _ _ _ h => h) (Or.inl ⟨by first | kernel_rfl | rfl, ?_⟩) (by assumption) ?_; rotate_left; focus (intro w hSw; (try dsimp only at hSw); go_simp; try (with_reducible rfl)); (try simp only [Act.put, List.getElem_toArray, List.getElem_cons_succ, List.getElem_cons_zero, List.setIfInBounds_toArray, List.set_cons_zero, List.set_cons_succ])
  refine wpAnyH_done (by kernel_rfl) ?_ _
  (try simp only [Act.put, List.getElem_toArray, List.getElem_cons_succ, List.getElem_cons_zero, List.setIfInBounds_toArray, List.set_cons_zero, List.set_cons_succ])
  obtain ⟨w2, hw2⟩ : ∃ x, x = w1.drew := ⟨_, rfl⟩
  have k12 : Keeps (fun _ => False) w1 w2 := by rw [hw2]; exact (Keeps.refl _ _).drew
  have H2 := hide (H1.out.quiet k12)
  have HA2 := hide (HA1.out.quiet k12)
  have K2 := hide (K1.out.trans k12)
  rw [← hw2]
  clear hw2 k12 H1 HA1 K1 hHeld HS9 HLd
  have HGG : Hid (∀ q, RG F p KA UA TA q → q < w2.heap.size) := hide (fun q hq => by
    rcases hq with hq | hq | hq | hq | hq
    · have := HF.out q hq; have := K2.out.size; omega
    · rw [hq]; exact H2.out.blk.lt
    · exact (H2.out.ks.inB hq).2
    · exact (H2.out.us.inB hq).2
    · exact (H2.out.ts.inB hq).2)
  obtain ⟨⟨c0, c1, c2, c3, c4⟩, hpl⟩ := H2.out.cells N HN.out
  go_wp2_with fail
  trace "ALLOC"
  refine (ref_alloc HAl.out HRel.out HSz.out.1 HSz.out.2 HA2.out H56.out.1 H56.out.2 HGG.out).mono ?_
  rintro e w3 ⟨rfl, ⟨ρ', ra3, rel3, l1, l2⟩, k3⟩
  obtain ⟨gh, hgh⟩ : ∃ gh, gh = w3.heap.size := ⟨_, rfl⟩
  have hb := (Keeps.refl (fun _ => False) w3).alloc (.cells #[.int .i64 hi, .int .i64 hk, .int .i64 ha] 40)
  have r3 : IsRP w3 F p b n E ρ' := ⟨_, _, _, _, _, _, H2.out.arena k3, ra3⟩
  have r4 := (r3.for (F' := fun q => F q ∨ q = gh) (fun q hq e => by rcases e with e | e; exact e; omega)).quiet hb
  have HG4 := hide (Blk.new_at w3 40 #[.int .i64 hi, .int .i64 hk, .int .i64 ha] gh hgh)
  have K4 := hide ((RPS.quiet K2.out (k3.weak (S' := RPS F w2) (fun _ _ h => RS.rps h))).step0 hb)
  obtain ⟨w4, hw4⟩ : ∃ x, x = w3.alloc (.cells #[.int .i64 hi, .int .i64 hk, .int .i64 ha] 40) := ⟨_, rfl⟩
  rw [← hw4] at r4 HG4 K4
  have HF4 : Hid (∀ q, (F q ∨ q = gh) → q < w4.heap.size) := hide (fun q e => by
    rcases e with e | e
    · have := HF.out q e; have := K4.out.size; omega
    · subst e; exact HG4.out.lt)
  have HRel3 := hide rel3
  have HLL := hide (And.intro l1 l2)
  have HGH := hide hgh
  have HW4 := hide hw4
  clear hgh hw4 ra3 rel3 l1 l2 k3 hb r3 H2 HA2 K2 HGG HF H56 HRel HSz HAl
  go_upto_region 12 with fail
  rw [← HW4.out, ← HGH.out]
  clear HW4 HGH c0 c1 c2 c3 c4 hpl KA kc UA uc TA tc
  obtain ⟨KA, kc, UA, uc, TA, tc, h4, a4⟩ := r4
  obtain ⟨⟨c0, c1, c2, c3, c4⟩, hpl⟩ := h4.cells N HN.out
  have hus := h4.us
  rw [← HN.out] at hus
  have hIN : id ≤ N := by have := HN.out; omega
  have hN0 : 0 < N := by have := HN.out; omega
  obtain ⟨gu, rfl, _, hgu⟩ := hus.some_ hN0
  have HUS := hide hus
  have H4 := hide h4
  have A4 := hide a4
  clear h4 a4 hus
  go_upto_region 15 with fail
  trace "LOOP"
  go_loopw [10] (fun iv wr => ∃ i : Nat, 1 ≤ i ∧ i ≤ id ∧ iv = .int .i64 (i : Int) ∧ wr = w4) (fun iv _ => id - (intOf iv).toNat)
  case atStart => exact ⟨1, by omega, by omega, rfl, rfl⟩
  case round =>
    obtain ⟨i, hi1, hi2, rfl, rfl⟩ := hrel
    by_cases hlt : i < id
    · have e1 : decide ((i : Int) < (N : Int)) = true := by simp; omega
      obtain ⟨y, hy⟩ : ∃ y, E[i]? = some y := ⟨E[i]'(by rw [← HN.out]; omega), List.getElem?_eq_getElem _⟩
      have q1 := HUS.out.cell i (by omega)
      rw [usCs_at hy] at q1
      have hiI : (i : Int) < (N : Int) := by omega
      have hi00 : (0 : Int) ≤ (i : Int) := by omega
      have e2 : decide ((0 : Int) < y.users) = true := by have := HLe.out i y hi1 hlt hy; simpa using this
      clear hy
      go_wp2_with fail
      go_roundw
      case rel => exact ⟨i + 1, by omega, by omega, by go_num, by trivial⟩
      case measure => simp [intOf]; omega
    obtain rfl : i = id := by omega
    obtain ⟨w4, rfl⟩ : ∃ x : World, x = wr := ⟨_, rfl⟩
    have e1 : decide ((i : Int) < (N : Int)) = false := by simp; have := HN.out; have := HI.out; omega
    have e1n : decide (i < N) = false := by simp; have := HN.out; have := HI.out; omega
    have hqn : (i == N) = true := by simp; have := HN.out; have := HI.out; omega
    have hq : ((i : Int) == (N : Int)) = true := by simp; have := HN.out; have := HI.out; omega
    go_upto_region 18 with fail
    trace "R18"
    refine Code.wp_mono ?_ (poolGrow.reg18 H4.out A4.out HF4.out N HN.out hEN _ _ _ _ _ _ _ _ _ _ _ _ _ _ _ _ _ _ _ _ _ _ _ _ _ _ _ _ _ _ _ _ _ _ _ _ _ _ _ _ _ _ _ _ _ _ _ _ _ _ _ _ _ _ _ _ _ _ _ _ _ _ _ _ _ _ _ _ _ _ _ _ _ _ _ _ _ _ _ _ _ _ _ _ _ _ _ _ _ _ _ _ _ _ _ _ _ _ _ _ _ _ _ _ _ _ _ _ _ _ _ _ _ _ _ _ _ _ _ _ _ _ _ _ _ _ _ _)
    intro e a' w5 hex
    cases e <;> (first | exact hex.elim | skip)
    obtain ⟨⟨u80, u81, u82, u83, u84, u85, u86, u87, u88, u89, u90, u91, u92, u93, u94, u95, u96, u97, u98, u99, u100, u101, u102, u103, u104, u105, u106, u107, rfl⟩, ip5, kp5⟩ := hex
    have HG5 := hide (HG4.out.kept kp5 (fun e => e.1 (.inr rfl)))
    have K5 := hide (RPS.trans K4.out (kp5.weak (S' := RPS F w4) (fun _ _ h => RPS.less (fun q e => .inl e) h)))
    clear kp5 H4 A4 HUS c0 c1 c2 c3 c4 hpl HG4 K4 HF4 hgu hN0
    obtain ⟨KB, kd, UB, ud, TB, td, h5, a5⟩ := ip5
    have H5 := hide h5
    have A5 := hide a5
    clear h5 a5
    have HX5 : Hid ((E ++ [PE.zero])[i]? = some PE.zero) := hide (by simp [HI.out])
    have hEN1 : Hid ((E ++ [PE.zero]).length ≤ 1000001) := hide (by have := HN.out; simp; omega)
    dsimp only
    go_upto_region 19 with fail
    trace "R19"
    refine Code.wp_mono ?_ (poolGrow.reg19 H5.out A5.out hEN1.out i PE.zero HX5.out t gh (hi, hk, ha) HG5.out (Or.inr rfl) _ _ _ _ _ _ _ _ _ _ _ _ _ _ _ _ _ _ _ _ _ _ _ _ _ _ _ _ _ _ _ _ _ _ _ _ _ _ _ _ _ _ _ _ _ _ _ _ _ _ _ _ _ _ _ _ _ _ _ _ _ _ _ _ _ _ _ _ _ _ _ _ _ _ _ _ _ _ _ _ _ _ _ _ _ _ _ _ _ _ _ _ _ _ _ _ _ _ _ _ _ _ _ _ _ _ _ _ _ _ _ _ _ _ _ _ _ _ _ _ _ _ _ _ _)
    intro e a' w9 hex
    cases e <;> (first | exact hex.elim | skip)
    obtain ⟨⟨v108, v109, v110, v111, v112, v113, v114, v115, v116, v117, v118, v119, v120, v121, v122, v123, v124, v125, v126, v127, rfl⟩, ip9, kp9⟩ := hex
    have I9 := hide (ip9.for (F' := F) (fun q _ e => .inl e))
    have K9 := hide (RPS.trans K5.out (kp9.weak (S' := RPS F w5) (fun _ _ h => RPS.less (fun q e => .inl e) h)))
    clear ip9 kp9
    dsimp only
    go_wp2_with fail
    trace "DONE"
    go_ret2
    exact ⟨rfl, ⟨ρ', I9.out, HRel3.out, HLL.out.1, HLL.out.2⟩, K9.out⟩
end
end Go.Proofs.Ytidobhflijdccaa

set_option linter.unusedVariables false
set_option linter.unusedSimpArgs false
namespace Go.Proofs.Ytidobhflijdccaa
open Go.RowKit Cfp
open Go.WideMaps
theorem er_len (s : Ar) : (er s).cls.length = s.cls.length := by simp [er]
theorem sized_er {s : Ar} {L : Nat → List Nat} {M : Int} (v : Inv s L M) : Sized (er s) := by
  refine ⟨by rw [er_len]; exact v.hn, fun i c hc => ?_⟩
  rw [er_cls] at hc
  rcases e : s.cls[i]? with _ | d
  · rw [e] at hc; cases hc
  · rw [e] at hc
    injection hc with hc
    subst hc
    have := v.cb i d e
    simp only [erC, List.length_map]
    omega
theorem bytesN_er (s : Ar) : ∀ n, bytesN (er s).cls n = bytesN s.cls n := by
  intro n
  induction n with
  | zero => rfl
  | succ n ih =>
    unfold bytesN
    rw [ih, List.getD, List.getD, er_cls]
    rcases s.cls[n]? with _ | c <;> rfl
/-- the program's pool and arena, and the reference's, alike -/
structure PBof (w : World) (B a p mb : Nat) (F : Nat → Prop) (q b : Nat) (n : Int) (K : Nat) (E : List PE) (EA : Option Addr) (cap : Nat) (D : KD) (s : Ar) (L : Nat → List Nat) (ρ : RA) : Prop where
  po : IsPo w B p a n E EA cap mb D
  ar : IsAr w B a s
  iv : Inv s L K
  pv : PInv E s D K
  rp : IsRP w F q b n E ρ
  re : Rel (er s) L ρ
  ns : ρ.slots.length ≤ K
  nf : ρ.free.length ≤ K
  hB : B ≤ w.heap.size
  hF : ∀ k, F k → k < w.heap.size
def PB (w : World) (B a p mb : Nat) (F : Nat → Prop) (q b : Nat) (n : Int) (K : Nat) : Prop := ∃ E EA cap D s L ρ, PBof w B a p mb F q b n K E EA cap D s L ρ
section
variable {w w' : World} {B a p mb q b K : Nat} {F : Nat → Prop} {n : Int} {E : List PE} {EA : Option Addr} {cap : Nat} {D : KD} {s : Ar} {L : Nat → List Nat} {ρ : RA}
theorem PBof.quiet (h : PBof w B a p mb F q b n K E EA cap D s L ρ) (k : Keeps (fun _ => False) w w') : PBof w' B a p mb F q b n K E EA cap D s L ρ :=
  ⟨h.po.quiet k, h.ar.quiet k, h.iv, h.pv, h.rp.quiet k, h.re, h.ns, h.nf, Nat.le_trans h.hB k.size, fun j e => Nat.lt_of_lt_of_le (h.hF j e) k.size⟩
theorem PB.quiet (h : PB w B a p mb F q b n K) (k : Keeps (fun _ => False) w w') : PB w' B a p mb F q b n K := by
  obtain ⟨E, EA, cap, D, s, L, ρ, h⟩ := h
  exact ⟨E, EA, cap, D, s, L, ρ, h.quiet k⟩
theorem PB.more {K' : Nat} (h : PB w B a p mb F q b n K) (hK : K ≤ K') : PB w B a p mb F q b n K' := by
  obtain ⟨E, EA, cap, D, s, L, ρ, h⟩ := h
  exact ⟨E, EA, cap, D, s, L, ρ, ⟨h.po, h.ar, h.iv.more (by omega), h.pv.more (by omega), h.rp, h.re, by have := h.ns; omega, by have := h.nf; omega, h.hB, h.hF⟩⟩
theorem PBof.len (h : PBof w B a p mb F q b n K E EA cap D s L ρ) : E.length ≤ K + 1 := by have := h.pv.len; omega
theorem PBof.nn (h : PBof w B a p mb F q b n K E EA cap D s L ρ) : ∀ (id : Nat) (e : PE), E[id]? = some e → 0 ≤ e.users := fun id e he => (h.pv.us id e he).1
/-- the program's call is over; the reference's comes next, in any world that keeps all -/
def PAns (f : FuncId) (args : Array Value) (B a p mb : Nat) (F : Nat → Prop) (q b : Nat) (n : Int) (K : Nat) (v : Value) (w1 : World) : Prop :=
  ∀ w2, Keeps (fun _ => False) w1 w2 → Calls Try.prog f args w2 fun e w3 => e = .returned v ∧ PB w3 B a p mb F q b n K ∧ Keeps (RPS F w2) w2 w3
/-- Intern of both -/
def InternB (w : World) (B a p mb : Nat) (F : Nat → Prop) (q b : Nat) (n : Int) (K : Nat) (t : ByteArray) (e : Ending) (w1 : World) : Prop :=
  ∃ x er : Int, e = .returned (.tuple #[.int .i64 x, .int .i64 er]) ∧ Keeps (PoS B w) w w1 ∧ PAns 50 #[.pointer (some ⟨q, 0, none⟩), .string t] B a p mb F q b n (K + 1) (.tuple #[.int .i64 x, .int .i64 er]) w1
theorem intern_both (h : PB w B a p mb F q b n K) (hK : K ≤ 100000) (t : ByteArray) (ht : t.size ≤ 1000000) :
    Calls Try.prog 39 #[.pointer (some ⟨p, 0, none⟩), .string t] w (InternB w B a p mb F q b n K t) := by
  obtain ⟨E, EA, cap, D, s, L, ρ, h⟩ := h
  have hlen : t.data.toList.length = t.size := by rw [Array.length_toList]; rfl
  have hEl := h.len
  have hns := h.ns
  have hnf := h.nf
  refine (pintern_x w B p a mb cap n E EA D s L K K t h.po h.ar h.iv h.pv (by omega) (by omega) (by omega) h.hB).mono ?_
  rintro e w1 hx
  cases hx with
  | no c he hc h1 hA1 k =>
    refine ⟨0, c, he, k.weak (fun _ _ h => h.elim), fun w2 k2 => ?_⟩
    have hq := (h.quiet k).quiet k2
    rcases hc with ⟨hk0, rfl⟩ | ⟨hk0, rfl⟩ | ⟨hk1, hk2, hno, hfull, rfl⟩ | ⟨hk1, hk2, hno, hfull, hc0, al⟩
    · refine (rpintern_form hq.rp t (by rw [hk0] at hlen; simpa using hlen.symm)).mono ?_
      rintro e w3 ⟨rfl, rfl⟩
      exact ⟨rfl, PB.more ⟨_, _, _, _, _, _, _, hq⟩ (by omega), Keeps.refl _ _⟩
    · refine (rpintern_long hq.rp t (by omega) (by omega)).mono ?_
      rintro e w3 ⟨rfl, rfl⟩
      exact ⟨rfl, PB.more ⟨_, _, _, _, _, _, _, hq⟩ (by omega), Keeps.refl _ _⟩
    · refine (rpintern_full hq.rp hq.pv.zero (by omega) t (by omega) (by omega) hno hfull).mono ?_
      rintro e w3 ⟨rfl, k3⟩
      exact ⟨rfl, PB.more ⟨_, _, _, _, _, _, _, hq.quiet k3⟩ (by omega), k3.weak (fun _ _ h => h.elim)⟩
    · refine (rpintern_noal hq.rp hq.pv.zero (by omega) t (by omega) (by omega) hno hfull hq.hF (by omega) (by omega) hq.re (sized_er hq.iv) (by rw [← hlen]; exact al.er) hc0).mono ?_
      rintro e w3 ⟨rfl, ⟨ρ', r3, re3, l1, l2⟩, k3⟩
      exact ⟨rfl, ⟨E, EA, cap, D, s, L, ρ', ⟨hq.po.kept k3 (fun _ e => e.oth), hq.ar.kept k3 (fun _ e => e.other), hq.iv.more (by omega), hq.pv.more (by omega), r3, re3, by omega, by omega, Nat.le_trans hq.hB k3.size, fun j e => Nat.lt_of_lt_of_le (hq.hF j e) k3.size⟩⟩, k3⟩
  | old id x he hx hu hk h1 hA1 v hk1 hk2 k =>
    refine ⟨id, 0, he, k, fun w2 k2 => ?_⟩
    have hrp := (h.rp.kept k (fun _ e => e.rpo)).quiet k2
    have hun := h.pv.un
    refine (rpintern_old hrp h.pv.zero (by omega) t (by omega) (by omega) id x hx hu hk (by have := (h.pv.us id x hx).2; omega) (fun j y hy hyu hyk => hun j id y x hy hx hyu hu (by rw [hyk, hk]))).mono ?_
    rintro e w3 ⟨rfl, r3, k3⟩
    have s1 := k.size
    have s2 := k2.size
    have s3 := k3.size
    exact ⟨rfl, ⟨_, EA, cap, D, s, L, ρ, ⟨(h1.quiet k2).kept k3 (fun _ e => e.oth), (hA1.quiet k2).kept k3 (fun _ e => e.other), h.iv.more (by omega), v.more (by omega), r3, h.re, by omega, by omega, by have := h.hB; omega, fun j e => by have := h.hF j e; omega⟩⟩, k3⟩
  | new id x E1 EA1 cap1 i k age s1 s2 L2 he hk1 hk2 hno hn hE1 hx hu hid1 hleast h1 hA1 hV al st sl v kk =>
    refine ⟨id, 0, he, kk, fun w2 k2 => ?_⟩
    have hrp := (h.rp.kept kk (fun _ e => e.rpo)).quiet k2
    have z1 := kk.size
    have z2 := k2.size
    have hF2 : ∀ j, F j → j < w2.heap.size := fun j e => by have := h.hF j e; omega
    have hal := al.er
    rw [hlen] at hal
    have hvw : svw s1 i k = some (age, true, []) := by
      generalize hii : (i : Int) = ii at al
      generalize hkk : (k : Int) = kk' at al
      generalize hz : (0 : Int) = z at al
      cases al with
      | range hr => cases hz
      | full i c h1 hc hf hL hn => cases hz
      | fresh i' c _ g h1 hc hf hL hn hs =>
        obtain rfl : i = i' := by omega
        obtain rfl : k = c.slots.length := by omega
        rw [g.vw, if_pos ⟨rfl, rfl⟩]
      | again i' c y j r _ g h1 hc hf hL hy hu hs ha =>
        obtain rfl : i = i' := by omega
        obtain rfl : k = j := by omega
        rw [g.vw, if_pos ⟨rfl, rfl⟩]
    have hle : ∀ (j : Nat) (y : PE), 1 ≤ j → j < id → E[j]? = some y → 0 < y.users := fun j y h1 h2 hy => by have := hleast j y h1 h2 hy; have := h.nn j y hy; omega
    have fin : ∀ (w3 : World) (ρ' : RA), IsRP w3 F q b n (E1.set id ⟨(i, k, age), t.data.toList, 1⟩) ρ' → Rel (er s1) L2 ρ' → ρ'.slots.length ≤ ρ.slots.length + 1 → ρ'.free.length ≤ ρ.free.length → Keeps (RPS F w2) w2 w3 → PB w3 B a p mb F q b n (K + 1) := fun w3 ρ' r3 re3 l1 l2 k3 => by
      have z3 := k3.size
      exact ⟨_, EA1, cap1, _, s2, L2, ρ', ⟨(h1.quiet k2).kept k3 (fun _ e => e.oth), (hA1.quiet k2).kept k3 (fun _ e => e.other), by have := hV.more (M' := ((K + 1 : Nat) : Int)) (by omega); exact this, v.more (by omega), r3, re3.unseen hvw st sl, by omega, by omega, by have := h.hB; omega, fun j e => by have := hF2 j e; omega⟩⟩
    rcases hE1 with rfl | ⟨rfl, hid⟩
    · refine (rpintern_new hrp h.pv.zero (by omega) t (by omega) (by omega) hno hn hF2 (by omega) (by omega) h.re (sized_er h.iv) hal id hid1 x hx hu hle).mono ?_
      rintro e w3 ⟨rfl, ⟨ρ', r3, re3, l1, l2⟩, k3⟩
      exact ⟨rfl, fin w3 ρ' r3 re3 l1 l2 k3, k3⟩
    · refine (rpintern_grow hrp h.pv.zero (by omega) t (by omega) (by omega) hno hn hF2 (by omega) (by omega) h.re (sized_er h.iv) hal id hid1 hid hle).mono ?_
      rintro e w3 ⟨rfl, ⟨ρ', r3, re3, l1, l2⟩, k3⟩
      exact ⟨rfl, fin w3 ρ' r3 re3 l1 l2 k3, k3⟩
theorem used_or (E : List PE) (hz : ∀ (id : Nat) (e : PE), E[id]? = some e → 0 ≤ e.users) (h0 : ∃ e, E[0]? = some e ∧ e.users = 0) (z : Int) : (∀ id x, ¬ Used E z id x) ∨ ∃ (id : Nat) (x : PE), z = id ∧ 1 ≤ id ∧ E[id]? = some x ∧ 0 < x.users := by
  by_cases h : ∃ id x, Used E z id x
  · obtain ⟨id, x, h1, h2, h3⟩ := h
    refine .inr ⟨id, x, h1, ?_, h2, h3⟩
    rcases Nat.eq_zero_or_pos id with h4 | h4
    · subst h4
      obtain ⟨y, h5, h6⟩ := h0
      rw [h2] at h5
      injection h5 with h5
      subst h5
      omega
    · exact h4
  · exact .inl fun id x hx => h ⟨id, x, hx⟩
/-- Release of both -/
def ReleaseB (w : World) (B a p mb : Nat) (F : Nat → Prop) (q b : Nat) (n : Int) (K : Nat) (z : Int) (e : Ending) (w1 : World) : Prop :=
  ∃ er : Int, e = .returned (.int .i64 er) ∧ Keeps (PoS B w) w w1 ∧ PAns 51 #[.pointer (some ⟨q, 0, none⟩), .int .i64 z] B a p mb F q b n (K + 1) (.int .i64 er) w1
theorem release_both (h : PB w B a p mb F q b n K) (hK : K ≤ 100000) (z : Int) (hz : -9223372036854775808 ≤ z ∧ z < 9223372036854775808) :
    Calls Try.prog 45 #[.pointer (some ⟨p, 0, none⟩), .int .i64 z] w (ReleaseB w B a p mb F q b n K z) := by
  obtain ⟨E, EA, cap, D, s, L, ρ, h⟩ := h
  have hEl := h.len
  have hns := h.ns
  have hnf := h.nf
  rcases used_or E h.nn h.pv.zero z with hno | ⟨id, x, rfl, hid1, hx, hu⟩
  · refine (prelease_bad w B p a mb cap n E EA D h.po h.nn z hz hno (by omega)).mono ?_
    rintro e w1 ⟨he, rfl⟩
    refine ⟨8, he, Keeps.refl _ _, fun w2 k2 => ?_⟩
    have hq := h.quiet k2
    obtain ⟨KA, kc, UA, uc, TA, tc, hr, hA⟩ := hq.rp
    refine (rprelease_bad hr (by omega) h.nn z hz hno).mono ?_
    rintro e w3 ⟨rfl, rfl⟩
    exact ⟨rfl, PB.more ⟨_, _, _, _, _, _, _, hq⟩ (by omega), Keeps.refl _ _⟩
  · have hub := (h.pv.us id x hx).2
    refine (prelease_x w B p a mb cap n E EA D s K K L h.po h.ar h.iv h.pv (by omega) id x hx hu (by omega) h.hB).mono ?_
    rintro e w1 ⟨he, E', D', s', L', h1, hA1, hV1, hP1, hcase, k⟩
    refine ⟨0, he, k, fun w2 k2 => ?_⟩
    have hrp := (h.rp.kept k (fun _ e => e.rpo)).quiet k2
    have z1 := k.size
    have z2 := k2.size
    have hF2 : ∀ j, F j → j < w2.heap.size := fun j e => by have := h.hF j e; omega
    rcases hcase with ⟨hu1, rfl, rfl, rfl, rfl⟩ | ⟨hu1, rfl, st, sl, rfl, rfl⟩
    · refine (rprelease_some hrp (by omega) id x hid1 hx hu1 (by omega)).mono ?_
      rintro e w3 ⟨rfl, r3, k3⟩
      have z3 := k3.size
      exact ⟨rfl, ⟨_, EA, cap, _, s', _, ρ, ⟨(h1.quiet k2).kept k3 (fun _ e => e.oth), (hA1.quiet k2).kept k3 (fun _ e => e.other), hV1.more (by omega), hP1.more (by omega), r3, h.re, by omega, by omega, by have := h.hB; omega, fun j e => by have := hF2 j e; omega⟩⟩, k3⟩
    · obtain ⟨j, y, hj, hy, rfl', rfl'', hya, hyu⟩ := rel_live h.re (h.pv.lv id x hx hu).1
      refine (rprelease_last hrp (by omega) id x hid1 hx hu1 hF2 (by omega) (by omega) j y hj hy).mono ?_
      rintro e w3 ⟨rfl, r3, k3⟩
      have z3 := k3.size
      have hre := h.re.freed hy hyu (s' := er s') (by rw [rfl', rfl'', hya]; exact st.er) (fun q => by rw [slen_er, slen_er, sl])
      have hL : updL L y.c (y.k :: L y.c) = updL L x.h.1 (x.h.2.1 :: L x.h.1) := by rw [rfl', rfl'']
      rw [hL] at hre
      exact ⟨rfl, ⟨_, EA, cap, _, s', _, _, ⟨(h1.quiet k2).kept k3 (fun _ e => e.oth), (hA1.quiet k2).kept k3 (fun _ e => e.other), hV1.more (by omega), hP1.more (by omega), r3, hre, by simp; omega, by simp; omega, by have := h.hB; omega, fun j e => by have := hF2 j e; omega⟩⟩, k3⟩
/-- Text of both -/
def TextB (w : World) (B a p mb : Nat) (F : Nat → Prop) (q b : Nat) (n : Int) (K : Nat) (z : Int) (e : Ending) (w1 : World) : Prop :=
  ∃ (t : ByteArray) (er : Int), e = .returned (.tuple #[.string t, .int .i64 er]) ∧ Keeps (fun _ => False) w w1 ∧ ∀ w2, Keeps (fun _ => False) w1 w2 → Calls Try.prog 52 #[.pointer (some ⟨q, 0, none⟩), .int .i64 z] w2 fun e w3 => e = .returned (.tuple #[.string t, .int .i64 er]) ∧ w3 = w2
theorem text_both (h : PB w B a p mb F q b n K) (hK : K ≤ 100000) (z : Int) (hz : -9223372036854775808 ≤ z ∧ z < 9223372036854775808) :
    Calls Try.prog 40 #[.pointer (some ⟨p, 0, none⟩), .int .i64 z] w (TextB w B a p mb F q b n K z) := by
  obtain ⟨E, EA, cap, D, s, L, ρ, h⟩ := h
  have hEl := h.len
  rcases used_or E h.nn h.pv.zero z with hno | ⟨id, x, rfl, hid1, hx, hu⟩
  · refine (pText_bad w B p a mb cap n E EA D h.po h.nn z hz hno (by omega)).mono ?_
    rintro e w1 ⟨he, rfl⟩
    refine ⟨_, 8, he, Keeps.refl _ _, fun w2 k2 => ?_⟩
    obtain ⟨KA, kc, UA, uc, TA, tc, hr, hA⟩ := (h.quiet k2).rp
    exact rptext_bad hr (by omega) h.nn z hz hno
  · refine (pText_ok w B p a mb cap n E EA D s K K L h.po h.ar h.iv h.pv id x hx hu (by omega) h.hB).mono ?_
    rintro e w1 ⟨he, k⟩
    refine ⟨_, 0, he, k, fun w2 k2 => ?_⟩
    obtain ⟨KA, kc, UA, uc, TA, tc, hr, hA⟩ := ((h.quiet k).quiet k2).rp
    exact rptext_ok hr (by omega) id x hid1 hx hu
/-- Find of both -/
def FindB (w : World) (q : Nat) (t : ByteArray) (e : Ending) (w1 : World) : Prop :=
  ∃ x u : Int, e = .returned (.tuple #[.int .i64 x, .int .i64 u]) ∧ Keeps (fun _ => False) w w1 ∧ ∀ w2, Keeps (fun _ => False) w1 w2 → Calls Try.prog 53 #[.pointer (some ⟨q, 0, none⟩), .string t] w2 fun e w3 => e = .returned (.tuple #[.int .i64 x, .int .i64 u]) ∧ Keeps (fun _ => False) w2 w3
theorem find_both (h : PB w B a p mb F q b n K) (hK : K ≤ 100000) (t : ByteArray) (ht : t.size ≤ 1000000) :
    Calls Try.prog 48 #[.pointer (some ⟨p, 0, none⟩), .string t] w (FindB w q t) := by
  obtain ⟨E, EA, cap, D, s, L, ρ, h⟩ := h
  have hEl := h.len
  refine (pfind_ok w B p a mb cap n E EA D s K h.po h.pv t (by simp only [maxLen]; omega) (by omega)).mono ?_
  rintro e w1 ⟨hc, nq, rfl⟩
  have k : Keeps (fun _ => False) w (w.drewN nq) := (Keeps.refl _ _).drewN _
  rcases hc with ⟨id, x, hx, hu, hk, he⟩ | ⟨hno, he⟩
  · refine ⟨_, _, he, k, fun w2 k2 => ?_⟩
    obtain ⟨KA, kc, UA, uc, TA, tc, hr, hA⟩ := ((h.quiet k).quiet k2).rp
    refine (rpfind_any hr h.pv.zero (by omega) t).mono ?_
    rintro e w3 ⟨hf, k3⟩
    refine ⟨?_, k3⟩
    rcases hf with ⟨j, y, hj1, hy, hyu, hyk, rfl⟩ | ⟨hno, _⟩
    · obtain rfl := h.pv.un j id y x hy hx hyu hu (by rw [hyk, hk])
      rw [hx] at hy
      injection hy with hy
      subst hy
      rfl
    · exact absurd hk (hno id x hx hu)
  · refine ⟨_, _, he, k, fun w2 k2 => ?_⟩
    obtain ⟨KA, kc, UA, uc, TA, tc, hr, hA⟩ := ((h.quiet k).quiet k2).rp
    refine (rpfind_any hr h.pv.zero (by omega) t).mono ?_
    rintro e w3 ⟨hf, k3⟩
    refine ⟨?_, k3⟩
    rcases hf with ⟨j, y, hj1, hy, hyu, hyk, rfl⟩ | ⟨_, rfl⟩
    · exact absurd hyk (hno j y hy hyu)
    · rfl
/-- Len of both -/
def LenB (w : World) (q : Nat) (e : Ending) (w1 : World) : Prop :=
  ∃ x : Int, e = .returned (.int .i64 x) ∧ w1 = w ∧ ∀ w2, Keeps (fun _ => False) w1 w2 → Calls Try.prog 54 #[.pointer (some ⟨q, 0, none⟩)] w2 fun e w3 => e = .returned (.int .i64 x) ∧ w3 = w2
theorem len_both (h : PB w B a p mb F q b n K) (hK : K ≤ 100000) :
    Calls Try.prog 44 #[.pointer (some ⟨p, 0, none⟩)] w (LenB w q) := by
  obtain ⟨E, EA, cap, D, s, L, ρ, h⟩ := h
  have hEl := h.len
  refine (plen_ok w B p a mb cap n E EA D h.po h.pv.says).mono ?_
  rintro e w1 ⟨he, rfl⟩
  refine ⟨_, he, rfl, fun w2 k2 => ?_⟩
  obtain ⟨KA, kc, UA, uc, TA, tc, hr, hA⟩ := (h.quiet k2).rp
  exact rplen_any hr (by omega)
/-- Usage of both arenas -/
def UsageB (w : World) (b : Nat) (e : Ending) (w1 : World) : Prop :=
  ∃ (D : Option Addr) (n m : Nat) (bt f : Int) (lv : List Int), e = .returned (.agg #[.slice D n m, .int .i64 bt, .int .i64 f]) ∧ Own w1 w.heap.size 3 1 D n m (lv.map (.int .i64)) ∧ n ≤ 8 ∧ Keeps (fun _ => False) w w1 ∧
    ∀ w2, Keeps (fun _ => False) w1 w2 → Calls Try.prog 37 #[.pointer (some ⟨b, 0, none⟩)] w2 fun e w3 => ∃ (D2 : Option Addr) (m2 : Nat), e = .returned (.agg #[.slice D2 n m2, .int .i64 bt, .int .i64 f]) ∧ Own w3 w2.heap.size 3 1 D2 n m2 (lv.map (.int .i64)) ∧ Keeps (fun _ => False) w2 w3
theorem usage_both (h : PB w B a p mb F q b n K) (hK : K ≤ 100000) : Calls Try.prog 26 #[.pointer (some ⟨a, 0, none⟩)] w (UsageB w b) := by
  obtain ⟨E, EA, cap, D, s, L, ρ, h⟩ := h
  have hns := h.ns
  have hsl : ρ.sh.length = s.cls.length := by rw [sh_len h.re, er_len]
  have hsh : ∀ x ∈ ρ.sh, 0 ≤ x.1 ∧ x.1 ≤ 4096 := fun x hx => by
    obtain ⟨i, hi⟩ := List.getElem?_of_mem hx
    rw [← h.re.sh, shape_er] at hi
    simp [shapeA] at hi
    obtain ⟨c, hc, rfl⟩ := hi
    have := h.iv.cb i c hc
    dsimp only
    omega
  refine (usage_inv B a s L K w h.ar h.iv).mono ?_
  rintro e w1 ⟨D1, m, he, o, k⟩
  refine ⟨D1, s.cls.length, m, _, _, _, he, o, h.iv.hn, k, fun w2 k2 => ?_⟩
  obtain ⟨KA, kc, UA, uc, TA, tc, hr, LA, lc, SA, sc, FA, fc, q1, hm⟩ := ((h.quiet k).quiet k2).rp
  refine (rusage_any w2 _ b ρ LA lc SA sc FA fc q1 hm (by omega) (by rw [hsl]; exact h.iv.hn) hsh h.re.cl).mono ?_
  rintro e w3 ⟨D2, m2, rfl, o2, k3⟩
  have e1 : livR ρ.sh.length ρ.slots = livesA s := by rw [← lives_er]; exact h.re.lives.symm
  have e2 : bytesN s.cls s.cls.length = sumB ρ.sh ρ.slots := by
    have := h.re.bytes
    rw [er_len, bytesN_er] at this
    exact this
  have e3 : s.faults = ρ.faults := h.re.fa
  rw [e1, hsl] at o2
  exact ⟨D2, m2, by rw [hsl, e2, e3], o2, k3⟩
end
end Go.Proofs.Ytidobhflijdccaa

set_option linter.unusedVariables false
set_option linter.unusedSimpArgs false
namespace Go.Proofs.Ytidobhflijdccaa
open Go.RowKit Cfp
/-- a pool for n keys in an arena of one class, that is used by the pool alone -/
structure One (w : World) (B p a mb : Nat) (n sz cnt : Int) (E : List PE) (EA : Option Addr) (cap : Nat) (D : KD) (s : Ar) (L : Nat → List Nat) (M M2 : Int) : Prop where
  po : IsPo w B p a n E EA cap mb D
  ar : IsAr w B a s
  iv : Inv s L M2
  pv : PInv E s D M
  sh : shapeA s = [(sz, cnt)]
  lv : livesA s = [(cntU E : Int)]
  fa : s.faults = 0
  hB : B ≤ w.heap.size
theorem One.quiet {w w' : World} {B p a mb : Nat} {n sz cnt : Int} {E : List PE} {EA : Option Addr} {cap : Nat} {D : KD} {s : Ar} {L : Nat → List Nat} {M M2 : Int} (h : One w B p a mb n sz cnt E EA cap D s L M M2) (k : Keeps (fun _ => False) w w') : One w' B p a mb n sz cnt E EA cap D s L M M2 :=
  ⟨h.po.quiet k, h.ar.quiet k, h.iv, h.pv, h.sh, h.lv, h.fa, Nat.le_trans h.hB k.size⟩
/-- how Intern changes the entries -/
inductive Takes (E E' : List PE) (key : List UInt8) (id : Nat) : Prop
  | old (x : PE) (hx : E[id]? = some x) (hu : 0 < x.users) (hk : x.key = key) (he : E' = E.set id { x with users := x.users + 1 })
  | new (x : PE) (E1 : List PE) (h : Hd) (hno : NoKey E key) (hE1 : E1 = E ∨ E1 = E ++ [PE.zero]) (hx : E1[id]? = some x) (hu : x.users = 0) (h1 : 1 ≤ id) (hl : ∀ (j : Nat) (y : PE), 1 ≤ j → j < id → E[j]? = some y → y.users ≠ 0) (he : E' = E1.set id ⟨h, key, 1⟩)
/-- what Intern gives here -/
def Int1 (w : World) (B p a mb : Nat) (n sz cnt : Int) (E : List PE) (M M2 : Int) (key : List UInt8) (e : Ending) (w' : World) : Prop :=
  ∃ (E' : List PE) (EA' : Option Addr) (cap' : Nat) (D' : KD) (s' : Ar) (L' : Nat → List Nat) (id : Nat), e = .returned (.tuple #[.int .i64 id, .int .i64 0]) ∧ One w' B p a mb n sz cnt E' EA' cap' D' s' L' (M + 1) (M2 + 1) ∧ Takes E E' key id ∧ cntU E' ≤ cntU E + 1 ∧ Keeps (PoS B w) w w'
theorem one_cls {s : Ar} {sz cnt : Int} (h : shapeA s = [(sz, cnt)]) {i : Nat} {c : Cls} (hc : s.cls[i]? = some c) : i = 0 ∧ c.size = sz ∧ c.count = cnt := by
  have e : (shapeA s)[i]? = some (c.size, c.count) := by simp [shapeA, hc]
  rw [h] at e
  rcases i with _ | i
  · simp at e
    exact ⟨rfl, e.1.symm, e.2.symm⟩
  · simp at e
theorem one_live {s : Ar} {v : Int} (h : livesA s = [v]) {c : Cls} (hc : s.cls[0]? = some c) : c.live = v := by
  have e : (livesA s)[0]? = some c.live := by simp [livesA, hc]
  rw [h] at e
  simp at e
  exact e.symm
theorem one_has {s : Ar} {sz cnt : Int} (h : shapeA s = [(sz, cnt)]) : ∃ c, s.cls[0]? = some c := by
  have e : s.cls.length = 1 := by have := congrArg List.length h; simpa [shapeA] using this
  exact ⟨s.cls[0]'(by omega), by simp⟩
theorem intern1 (w : World) (B p a mb : Nat) (n sz cnt : Int) (E : List PE) (EA : Option Addr) (cap : Nat) (D : KD) (s : Ar) (L : Nat → List Nat) (M M2 : Int) (t : ByteArray) (h : One w B p a mb n sz cnt E EA cap D s L M M2)
    (hM : M ≤ 900000) (hM2 : 0 ≤ M2 ∧ M2 < 1000000000) (h1 : 1 ≤ t.size) (h2 : t.size ≤ 255) (h3 : (t.size : Int) ≤ sz) (hroom : (cntU E : Int) < n) (hn : n ≤ cnt) :
    Calls Try.prog 39 #[.pointer (some ⟨p, 0, none⟩), .string t] w (Int1 w B p a mb n sz cnt E M M2 t.data.toList) := by
  have hl : t.data.toList.length = t.size := by rw [Array.length_toList]; rfl
  refine (pintern_ok w B p a mb cap n E EA D s L M M2 t h.po h.ar h.iv h.pv hM hM2 (by omega) h.hB).mono ?_
  intro e w' hi
  rcases hi with ⟨c, he, hc, _, _, _⟩ | ⟨id, x, he, hx, hu, hk, h4, h5, h6, k⟩ | ⟨id, x, E1, EA1, cap1, i, k, age, s1, s2, L2, he, hk1, hk2, hno, hne, hE1, hx, hu, hid1, hleast, h4, h5, hV, g, wr, hage, hfit, v, kk⟩
  · exfalso
    rcases hc with ⟨h4, _⟩ | ⟨h4, _⟩ | ⟨_, _, _, h4, _⟩ | ⟨_, _, _, _, h4⟩
    · rw [h4] at hl; simp at hl; omega
    · omega
    · omega
    · rcases h4 with ⟨_, h5⟩ | ⟨_, i, c, hc, hf, hlv⟩
      · rcases h5 with h5 | h5
        · omega
        · obtain ⟨c, hc⟩ := one_has h.sh
          have h6 := h5 0 c hc
          have h7 := (one_cls h.sh hc).2.1
          omega
      · obtain ⟨h6, h7, h8⟩ := one_cls h.sh hc
        subst h6
        have := one_live h.lv hc
        omega
  · have hcu : cntU (E.set id { x with users := x.users + 1 }) = cntU E := by
      have := cntU_set E id x { x with users := x.users + 1 } hx
      simp only [hu, show (0 : Int) < x.users + 1 by omega, if_true] at this
      omega
    exact ⟨_, EA, cap, D, s, L, id, he, ⟨h4, h5, h.iv.more (by omega), h6, h.sh, by rw [hcu]; exact h.lv, h.fa, Nat.le_trans h.hB k.size⟩, .old x hx hu hk rfl, by omega, k⟩
  · have hE1c : cntU E1 = cntU E := by
      rcases hE1 with rfl | rfl
      · rfl
      · rw [cntU_app]; rfl
    have hcu : cntU (E1.set id ⟨(i, k, age), t.data.toList, 1⟩) = cntU E + 1 := by
      have := cntU_set E1 id x ⟨(i, k, age), t.data.toList, 1⟩ hx
      rw [if_neg (by omega), if_pos (by show (0 : Int) < 1; omega)] at this
      omega
    obtain ⟨c, hc, _, _⟩ := g.fit
    obtain ⟨rfl, _, _⟩ := one_cls h.sh hc
    have hlv2 : livesA s2 = [((cntU E + 1 : Nat) : Int)] := by
      rw [wr.lives, g.lives, h.lv]
      simp
    exact ⟨_, EA1, cap1, _, s2, L2, id, he, ⟨h4, h5, hV, v, by rw [wr.shape, g.shape, h.sh], by rw [hcu]; exact hlv2, by rw [wr.faults, g.faults, h.fa], Nat.le_trans h.hB kk.size⟩, .new x E1 _ hno hE1 hx hu hid1 hleast rfl, by omega, kk⟩
/-- what Release gives here -/
def Rel1 (w : World) (B p a mb : Nat) (n sz cnt : Int) (E : List PE) (EA : Option Addr) (cap : Nat) (M M2 : Int) (id : Nat) (x : PE) (e : Ending) (w' : World) : Prop :=
  e = .returned (.int .i64 0) ∧ ∃ (D' : KD) (s' : Ar) (L' : Nat → List Nat), One w' B p a mb n sz cnt (E.set id { x with users := x.users - 1 }) EA cap D' s' L' M M2 ∧ Keeps (PoS B w) w w'
theorem release1 (w : World) (B p a mb : Nat) (n sz cnt : Int) (E : List PE) (EA : Option Addr) (cap : Nat) (D : KD) (s : Ar) (L : Nat → List Nat) (M M2 : Int) (h : One w B p a mb n sz cnt E EA cap D s L M M2)
    (hM : M ≤ 900000) (id : Nat) (x : PE) (hx : E[id]? = some x) (hu : 0 < x.users) :
    Calls Try.prog 45 #[.pointer (some ⟨p, 0, none⟩), .int .i64 id] w (Rel1 w B p a mb n sz cnt E EA cap M M2 id x) := by
  refine (prelease_ok w B p a mb cap n E EA D s M M2 L h.po h.ar h.iv h.pv (by omega) id x hx hu (by have := h.pv.len; omega) h.hB).mono ?_
  rintro e w' ⟨he, E', D', s', L', h4, h5, h6, h7, hw, k⟩
  rcases hw with ⟨h8, rfl, rfl, rfl⟩ | ⟨h8, rfl, g, rfl⟩
  · have hcu : cntU (E.set id { x with users := x.users - 1 }) = cntU E := by
      have := cntU_set E id x { x with users := x.users - 1 } hx
      simp only [hu, show (0 : Int) < x.users - 1 by omega, if_true] at this
      omega
    exact ⟨he, _, s', L', ⟨h4, h5, h6, h7, h.sh, by rw [hcu]; exact h.lv, h.fa, Nat.le_trans h.hB k.size⟩, k⟩
  · have e0 : x.users - 1 = 0 := by omega
    have hcu : cntU (E.set id { x with users := 0 }) + 1 = cntU E := by
      have := cntU_set E id x { x with users := 0 } hx
      rw [if_pos hu, if_neg (by show ¬ (0 : Int) < 0; omega)] at this
      omega
    obtain ⟨c, hc⟩ : ∃ c, s.cls[x.h.1]? = some c := ⟨s.cls[x.h.1]'g.hi.1, by simp⟩
    obtain ⟨h9, _, _⟩ := one_cls h.sh hc
    have hlv2 : livesA s' = [(cntU (E.set id { x with users := 0 }) : Int)] := by
      rw [g.lives, h.lv, h9]
      simp
      omega
    refine ⟨he, D.del (.string x.key), s', L', ⟨?_, h5, h6, ?_, by rw [g.shape, h.sh], ?_, by rw [g.faults, h.fa], Nat.le_trans h.hB k.size⟩, k⟩
    · rw [e0]; exact h4
    · rw [e0]; exact h7
    · rw [e0]; exact hlv2
theorem One.new {w : World} {B p a mb g : Nat} {n sz cnt : Int} {CA : Option Addr} {c : Nat} (h1 : IsPo w B p a n [PE.zero] (some ⟨g, 0, none⟩) 1 mb (.map [])) (h2 : IsAr w B a (parAr [(sz, cnt)] 1 CA c)) (hE : classesE [(sz, cnt)] = 0) (hB : B ≤ w.heap.size) :
    One w B p a mb n sz cnt [PE.zero] (some ⟨g, 0, none⟩) 1 (.map []) (parAr [(sz, cnt)] 1 CA c) (fun _ => []) 0 0 :=
  ⟨h1, h2, inv_new _ hE CA c 1 rfl, PInv.new _, rfl, rfl, rfl, hB⟩
/-- the pool has another base -/
theorem IsPo.base {w : World} {B B' p a mb cap : Nat} {n : Int} {E : List PE} {EA : Option Addr} {D : KD} (h : IsPo w B p a n E EA cap mb D) (hb : B' ≤ B) : IsPo w B' p a n E EA cap mb D :=
  ⟨Nat.le_trans hb h.le, h.blk, h.own.base_le hb, Nat.le_trans hb h.lem, h.map⟩
theorem takes_1 {E' : List PE} {key : List UInt8} {id : Nat} (h : Takes [PE.zero] E' key id) : id = 1 ∧ ∃ q, E' = [PE.zero, ⟨q, key, 1⟩] := by
  rcases h with ⟨x, hx, hu, _, _⟩ | ⟨x, E1, q, hno, hE1, hx, hu, h1, hl, he⟩
  · rcases id with _ | id
    · simp at hx; subst hx; simp [PE.zero] at hu
    · simp at hx
  · rcases hE1 with rfl | rfl
    · rcases id with _ | id
      · omega
      · simp at hx
    · rcases id with _ | _ | id
      · omega
      · exact ⟨rfl, q, by rw [he]; rfl⟩
      · simp at hx
theorem takes_2 {E' : List PE} {k1 key : List UInt8} {q : Hd} {id : Nat} (hne : k1 ≠ key) (h : Takes [PE.zero, ⟨q, k1, 1⟩] E' key id) : id = 2 ∧ ∃ r, E' = [PE.zero, ⟨q, k1, 1⟩, ⟨r, key, 1⟩] := by
  rcases h with ⟨x, hx, hu, hk, _⟩ | ⟨x, E1, r, hno, hE1, hx, hu, h1, hl, he⟩
  · rcases id with _ | _ | id
    · simp at hx; subst hx; simp [PE.zero] at hu
    · simp at hx; subst hx; exact absurd hk hne
    · simp at hx
  · have h2 : id ≠ 1 := by
      rintro rfl
      rcases hE1 with rfl | rfl <;> · simp at hx; subst hx; simp at hu
    rcases hE1 with rfl | rfl
    · rcases id with _ | _ | id
      · omega
      · omega
      · simp at hx
    · rcases id with _ | _ | _ | id
      · omega
      · omega
      · exact ⟨rfl, r, by rw [he]; rfl⟩
      · simp at hx
theorem takes_3 {E' : List PE} {k1 k2 : List UInt8} {q r : Hd} {id : Nat} (hne : k1 ≠ k2) (h : Takes [PE.zero, ⟨q, k1, 1⟩, ⟨r, k2, 1⟩] E' k1 id) : id = 1 ∧ E' = [PE.zero, ⟨q, k1, 2⟩, ⟨r, k2, 1⟩] := by
  rcases h with ⟨x, hx, hu, hk, he⟩ | ⟨x, E1, r, hno, _⟩
  · rcases id with _ | _ | _ | id
    · simp at hx; subst hx; simp [PE.zero] at hu
    · simp at hx; subst hx; exact ⟨rfl, by rw [he]; rfl⟩
    · simp at hx; subst hx; exact absurd hk (fun e => hne e.symm)
    · simp at hx
  · exact absurd rfl (hno 1 ⟨q, k1, 1⟩ rfl (by show (0 : Int) < 1; omega))
theorem takes_4 {E' : List PE} {k1 k2 k3 : List UInt8} {q r : Hd} {id : Nat} (h23 : k2 ≠ k3) (h : Takes [PE.zero, ⟨q, k1, 0⟩, ⟨r, k2, 1⟩] E' k3 id) : id = 1 ∧ cntU E' = 2 := by
  rcases h with ⟨x, hx, hu, hk, he⟩ | ⟨x, E1, z, hno, hE1, hx, hu, h1, hl, he⟩
  · rcases id with _ | _ | _ | id
    · simp at hx; subst hx; simp [PE.zero] at hu
    · simp at hx; subst hx; simp at hu
    · simp at hx; subst hx; exact absurd hk h23
    · simp at hx
  · rcases id with _ | _ | id
    · omega
    · refine ⟨rfl, ?_⟩
      rw [he]
      rcases hE1 with rfl | rfl <;> simp [cntU, PE.zero]
    · exact absurd rfl (hl 1 ⟨q, k1, 0⟩ (by omega) (by omega) rfl)
def ex9 : List (Int × Int) := [(8, 4)]
set_option maxRecDepth 100000 in
set_option maxHeartbeats 1000000 in
theorem awake09 (w : World) : Calls Try.prog 41 #[] w fun e w' => e = .returned (.bool true) ∧ Keeps (fun _ => False) w w' := by
  have k1 := (Keeps.refl (fun _ => False) w).alloc (.cells #[.int .i64 8, .int .i64 4] 37)
  have r1 := (show Blk (w.alloc (.cells #[.int .i64 8, .int .i64 4] 37)) w.heap.size 37 (prs ex9).toArray from Blk.new _ _ _).rd (n := 1) (sz := 2) rfl
  have HN := hide (anew_ok ex9 rfl (some ⟨w.heap.size, 0, none⟩) 1 1 _ _ r1 (Nat.le_refl _))
  have K1 := hide k1
  clear k1 r1
  go_enter Try.func41, Try.ntmps41
  go_wp2_with fail
  trace "NEW"
  refine HN.out.mono ?_
  rintro e w1 ⟨a, CA, c, rfl, h1, k1⟩
  obtain ⟨B, hBe⟩ : ∃ B, B = (w.alloc (.cells #[.int .i64 8, .int .i64 4] 37)).heap.size := ⟨_, rfl⟩
  rw [← hBe] at h1
  have hwB : w.heap.size ≤ B := by rw [hBe]; exact K1.out.size
  have hB1 : B ≤ w1.heap.size := by rw [hBe]; exact k1.size
  have H1 := hide h1
  have K2 := hide (K1.out.trans k1)
  clear h1 k1 K1 hBe HN
  go_wp2_with fail
  trace "PNEW"
  refine (pnew_ok w1 a 3 (by omega) (by omega)).mono ?_
  rintro e w2 ⟨p, g, mb, rfl, h2, k2⟩
  have HO := hide (One.new (h2.base hB1) (H1.out.quiet k2) rfl (Nat.le_trans hB1 k2.size))
  have K3 := hide (K2.out.trans k2)
  clear h2 k2 K2 H1
  go_wp2_with fail
  trace "A"
  refine (intern1 w2 B p a mb 3 8 4 _ _ _ _ _ _ 0 0 ⟨#[97]⟩ HO.out (by omega) (by omega) (by decide) (by decide) (by decide) (by decide) (by omega)).mono ?_
  rintro e w3 ⟨E1, EA1, cap1, D1, s1, L1, id, rfl, o3, tk, _, k3⟩
  obtain ⟨rfl, q, rfl⟩ := takes_1 tk
  have HO3 := hide o3
  have K4 := hide (PoS.to0 K3.out k3 hwB)
  clear o3 tk k3 HO K3
  go_wp2_with fail
  trace "B"
  refine (intern1 w3 B p a mb 3 8 4 _ _ _ _ _ _ (0 + 1) (0 + 1) ⟨#[98]⟩ HO3.out (by omega) (by omega) (by decide) (by decide) (by decide) (by show ((1 : Nat) : Int) < 3; omega) (by omega)).mono ?_
  rintro e w4 ⟨E2, EA2, cap2, D2, s2, L2, id, rfl, o4, tk, _, k4⟩
  obtain ⟨rfl, r, rfl⟩ := takes_2 (by decide) tk
  have HO4 := hide o4
  have K5 := hide (PoS.to0 K4.out k4 hwB)
  clear o4 tk k4 HO3 K4
  go_wp2_with fail
  trace "A2"
  refine (intern1 w4 B p a mb 3 8 4 _ _ _ _ _ _ (0 + 1 + 1) (0 + 1 + 1) ⟨#[97]⟩ HO4.out (by omega) (by omega) (by decide) (by decide) (by decide) (by show ((2 : Nat) : Int) < 3; omega) (by omega)).mono ?_
  rintro e w5 ⟨E3, EA3, cap3, D3, s3, L3, id, rfl, o5, tk, _, k5⟩
  obtain ⟨rfl, rfl⟩ := takes_3 (by decide) tk
  have HO5 := hide o5
  have K6 := hide (PoS.to0 K5.out k5 hwB)
  clear o5 tk k5 HO4 K5
  go_wp2_with fail
  trace "R1"
  refine (release1 w5 B p a mb 3 8 4 _ _ _ _ _ _ _ _ HO5.out (by omega) 1 ⟨q, [97], 2⟩ rfl (by show (0 : Int) < 2; omega)).mono ?_
  rintro e w6 ⟨rfl, D6, s6, L6, o6, k6⟩
  have HO6 := hide (show One w6 B p a mb 3 8 4 [PE.zero, ⟨q, [97], 1⟩, ⟨r, [98], 1⟩] _ _ _ _ _ _ _ from o6)
  have K7 := hide (PoS.to0 K6.out k6 hwB)
  clear o6 k6 HO5 K6
  go_wp2_with fail
  trace "R2"
  refine (release1 w6 B p a mb 3 8 4 _ _ _ _ _ _ _ _ HO6.out (by omega) 1 ⟨q, [97], 1⟩ rfl (by show (0 : Int) < 1; omega)).mono ?_
  rintro e w7 ⟨rfl, D7, s7, L7, o7, k7⟩
  have HO7 := hide (show One w7 B p a mb 3 8 4 [PE.zero, ⟨q, [97], 0⟩, ⟨r, [98], 1⟩] _ _ _ _ _ _ _ from o7)
  have K8 := hide (PoS.to0 K7.out k7 hwB)
  clear o7 k7 HO6 K7
  go_wp2_with fail
  trace "C"
  refine (intern1 w7 B p a mb 3 8 4 _ _ _ _ _ _ _ _ ⟨#[99]⟩ HO7.out (by omega) (by omega) (by decide) (by decide) (by decide) (by show ((1 : Nat) : Int) < 3; omega) (by omega)).mono ?_
  rintro e w8 ⟨E8, EA8, cap8, D8, s8, L8, id, rfl, o8, tk, _, k8⟩
  obtain ⟨rfl, hc2⟩ := takes_4 (by decide) tk
  have K9 := hide (PoS.to0 K8.out k8 hwB)
  have HL := hide (plen_ok w8 B p a mb _ _ _ _ _ o8.po o8.pv.says)
  rw [hc2] at HL
  clear o8 tk k8 HO7 K8 hc2
  go_wp2_with fail
  trace "LEN"
  refine HL.out.mono ?_
  rintro e w9 ⟨rfl, rfl⟩
  go_wp2_with fail
  go_ret
  exact ⟨rfl, K9.out⟩
end Go.Proofs.Ytidobhflijdccaa

set_option linter.unusedVariables false
set_option linter.unusedSimpArgs false
namespace Go.Proofs.Ytidobhflijdccaa
open Go.RowKit Cfp
open Go.WideMaps
theorem er_par (l : List (Int × Int)) (n : Nat) (CA : Option Addr) (cap : Nat) : er (parAr l n CA cap) = parAr l n CA cap := by
  have e : (parAr l n CA cap).cls.map erC = (parAr l n CA cap).cls := by
    unfold parAr
    dsimp only
    refine (List.map_congr_left (g := id) (fun c hc => ?_)).trans (List.map_id _)
    obtain ⟨x, _, rfl⟩ := List.mem_map.1 hc
    rfl
  show ({ parAr l n CA cap with cls := _ } : Ar) = _
  rw [e]
theorem ra_new {w : World} {G : Nat → Prop} {b q : Nat} (l : List (Int × Int)) (n : Nat) (hl : l.length = n) {D : Option Addr} {c : Nat} (hb : Blk w b 136 #[.slice D n c, .slice none 0 0, .slice none 0 0, .slice (some ⟨q, 0, none⟩) n n, .int .i64 0])
    (g1 : ¬ G b) (g2 : ¬ G q) (g3 : ∀ k, inB D k → ¬ G k) (ho : Own w 0 37 2 D n c (prs l)) (hq : Blk w q 3 (Array.replicate n (.int .i64 0))) : IsRA w G b ⟨l, [], [], List.replicate n 0, 0⟩ := by
  have hno : ∀ k, ¬ inB none k := fun k h => by obtain ⟨_, e, _⟩ := h; cases e
  refine ⟨D, c, none, 0, none, 0, q, by simpa [hl] using hb, by rw [hl]; exact ho, Own.nil _ _ _ _, Own.nil _ _ _ _, ?_, fun x hx => by simp at hx, hno _, g1, g2, fun k h => absurd h (hno k), fun k h => absurd h (hno k), g3, fun x hx => by simp at hx⟩
  have : (intCs (List.replicate n 0)).toArray = Array.replicate n (.int .i64 0) := by unfold intCs; simp
  show Blk w q _ (intCs (List.replicate n 0)).toArray
  rw [this]; exact hq
/-- what two gives -/
def Two9 (w : World) (B g : Nat) (e : Ending) (w' : World) : Prop :=
  ∃ (a p b q mb B0 lo : Nat) (n : Int), e = .returned (.tuple #[.pointer (some ⟨a, 0, none⟩), .pointer (some ⟨p, 0, none⟩), .pointer (some ⟨b, 0, none⟩), .pointer (some ⟨q, 0, none⟩), .bool true]) ∧ w.heap.size ≤ B0 ∧ w.heap.size ≤ lo ∧ PB w' B0 a p mb (fun k => k < lo) q b n 0 ∧ IsDeck w' B g ∧ Keeps (· = g) w w'
set_option maxRecDepth 100000 in
theorem two9 (B g : Nat) (w : World) (h : IsDeck w B g) (hBw : B ≤ w.heap.size) : Calls Try.prog 49 #[.pointer (some ⟨g, 0, none⟩)] w (Two9 w B g) := by
  have H := hide h
  have hgl := h.lt
  clear h
  go_enter Try.func49, Try.ntmps49
  go_wp2_with fail
  refine (classes_any B g _ H.out).mono ?_
  rintro e w1 ⟨D, n, m, l, rfl, hn4, hE, hb, o1, d1, k1⟩
  have O1 := hide o1
  have D1 := hide d1
  have K1 := hide k1
  have hw1 : w.heap.size ≤ w1.heap.size := k1.size
  have hln : Hid (l.length = n) := by have := O1.out.len; rw [prs_len] at this; show _ = _; omega
  have HE := hide hE
  have R1 := hide (O1.out.rd (by omega))
  clear o1 d1 k1 hE hb
  go_wp2_with fail
  refine (anew_ok l HE.out D n m w1.heap.size w1 R1.out (Nat.le_refl _)).mono ?_
  rintro e w2 ⟨a, CA, cap, rfl, h2, k2⟩
  have H2 := hide h2
  have K2 := hide k2
  have hw2 : w1.heap.size ≤ w2.heap.size := k2.size
  have R2 := hide (R1.out.kept k2 (fun _ _ h => h))
  clear h2 k2
  go_wp2_with fail
  refine (rnew_ok l HE.out D n m w1.heap.size w2 R2.out hw2).mono ?_
  rintro e w3 ⟨b, D3, c3, q3, rfl, b3, hb3, hq3, o3, n3, k3⟩
  have RA3 : Hid (IsRA w3 (fun k => k < w2.heap.size) b ⟨l, [], [], List.replicate n 0, 0⟩) := hide (ra_new l n hln.out b3 (by omega) (by omega) (fun k hk => by have := (o3.inB hk).1; omega) (o3.base_le (Nat.zero_le _)) n3)
  have hb3l := b3.lt
  have hw3 : w2.heap.size ≤ w3.heap.size := k3.size
  have K3 := hide k3
  have D3' := hide ((D1.out.kept K2.out (fun h => h) (fun _ _ h => h)).kept k3 (fun h => h) (fun _ _ h => h))
  clear b3 o3 n3 k3
  go_wp2_with fail
  refine (next_any 8 (by omega) (by omega) B g _ D3'.out).mono ?_
  rintro e w4 ⟨x, rfl, x0, x1, d4, k4⟩
  have A4 := hide ((H2.out.quiet K3.out).kept k4 (fun q e => .inl (by rw [e]; omega)))
  have RA4 := hide (RA3.out.kept k4 (fun q e => .inl (by show q < _; rw [e]; omega)))
  have hw4 : w3.heap.size ≤ w4.heap.size := k4.size
  have K4 := hide ((K1.out.step0 (K2.out.trans K3.out)).step k4 (fun _ _ e => e))
  have D4 := hide d4
  have ws : IntKind.i64.wrap (1 + x) = 1 + x := IntWalk.i64_in _ (by omega)
  clear d4 k4 K1 K2 K3 D1 D3' RA3 H2 R1 R2 O1 H
  go_wp2_with fail
  refine (pnew_ok w4 a (1 + x) (by omega) (by omega)).mono ?_
  rintro e w5 ⟨p, gp, mb, rfl, p5, k5⟩
  have P5 := hide p5
  have K5 := hide k5
  have hw5 : w4.heap.size ≤ w5.heap.size := k5.size
  clear p5 k5
  go_wp2_with fail
  refine (rpnew_x w5 (fun k => k < w2.heap.size) b (1 + x) _ (by omega) (by omega) (RA4.out.quiet K5.out) (fun q hq => by omega)).mono ?_
  rintro e w6 ⟨q, rfl, r6, k6⟩
  have R6 := hide r6
  have K6 := hide k6
  have hw6 : w5.heap.size ≤ w6.heap.size := k6.size
  clear r6 k6
  go_wp2_with fail
  refine bodyPost_ret (v := .tuple #[.pointer (some ⟨a, 0, none⟩), .pointer (some ⟨p, 0, none⟩), .pointer (some ⟨b, 0, none⟩), .pointer (some ⟨q, 0, none⟩), .bool true]) (by simp [results, Try.results49, go_sem]) rfl ?_
  have hk := K5.out.trans K6.out
  refine ⟨a, p, b, q, mb, w1.heap.size, w2.heap.size, 1 + x, rfl, hw1, by omega, ⟨[PE.zero], _, _, _, _, _, _, ⟨(P5.out.quiet K6.out).base (by omega), A4.out.quiet hk, inv_new l HE.out CA cap n hln.out, PInv.new _, R6.out, by rw [er_par]; exact Rel.new l n hln.out CA cap, Nat.le_refl _, Nat.le_refl _, by omega, fun k e => by omega⟩⟩, D4.out.kept hk (fun h => h) (fun _ _ h => h), K4.out.step0 hk⟩
end Go.Proofs.Ytidobhflijdccaa
