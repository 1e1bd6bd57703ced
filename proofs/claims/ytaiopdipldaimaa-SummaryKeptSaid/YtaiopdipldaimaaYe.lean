/-
  Deck.Summary: the loop that draws the entries. No conditions beyond those of the statement.
-/
import Derived.Test.YtaiopdipldaimaaYd
import Derived.Deep.CutBlock
import Derived.Deep.CutRange
set_option linter.unusedVariables false
set_option linter.unusedSimpArgs false
namespace Go.Proofs.Ytaiopdipldaimaa
open Go.RowKit
namespace dsum
/-- the loops of a body, in the order of the text -/
def loops : Code → List Code
  | .loop c => c :: loops c
  | .seq a b => loops a ++ loops b
  | .block _ c => loops c
  | .scope c => loops c
  | .cond _ a b => loops a ++ loops b
  | _ => []
def LoopPostK (k : Nat) (W : Act → World → Prop) : Exit → Act → World → Prop
  | .exit i, a, w => i = k ∧ W a w
  | _, _, _ => False
noncomputable def lp1 : Code := ((Try.f24.body.bind fun c => (loops c)[0]?).getD .skip)
/-- the entries drawn so far, in memory -/
structure LSt (w0 : World) (B g X5 : Nat) (tot left : Int) (kb : Nat) (l : List Ln) (A : Option Addr) (cp : Nat) (wr : World) : Prop where
  ok : EOk tot left kb l
  own : Own wr w0.heap.size 99 3 A l.length cp (lnCs l)
  blk : Blk wr X5 45 #[.int .u64 tot, .slice A l.length cp, .int .u64 0, .slice none 0 0]
  dk : IsDeck wr B g
  kp : Keeps (fun b => b = g ∨ b = X5) w0 wr
set_option maxRecDepth 1000000 in
set_option maxHeartbeats 4000000 in
theorem loop1 (B g X5 : Nat) (w0 : World) (tot : Int) (t0 : 0 ≤ tot) (t2 : tot ≤ 9223372036854775808) (k : Int) (k0 : 0 ≤ k) (k4 : k ≤ 4) (hD : IsDeck w0 B g) (h5 : X5 ≠ g) (hB5 : B ≤ X5)
    (hB : Blk w0 X5 45 #[.int .u64 tot, .slice none 0 0, .int .u64 0, .slice none 0 0]) (s1 s2 s3 s4 s9 s10 s11 s12 s13 s14 s15 s16 s17 s18 s19 s20 s21 s22 s23 s24 s25 s26 s27 s28 s29 s30 s31 s32 s33 s34 s35 s36 s37 s38 s39 s40 s41 s42 s43 s44 s45 s46 s47 s48 s49 s50 s51 s52 s53 s54 s55 s56 s57 s58 s59 s60 s61 s62 s63 s64 s65 s66 s67 s68 s69 s70 s71 s72 s73 s74 s75 s76 s77 s78 s79 s80 s81 s82 s83 s84 s85 s86 s87 s88 s89 s90 s91 s92 s93 s94 s95 s96 s97 s98 s99 s100 s101 s102 s103 s104 s105 s106 s107 s108 s109 s110 s111 s112 s113 s114 s115 s116 s117 : Value) :
    Code.wp Try.prog (Code.loop lp1) (LoopPostK 0 fun a' w' => ∃ left kb l A cp, l.length ≤ 4 ∧ LSt w0 B g X5 tot left kb l A cp w' ∧ (∃ u6 u7 u8 u9 u30 u31 u32 u33 u34 u35 u36 u37 u38 u39 u40 u41 u42 u43 u44 u45 u46 u47 u48 u49 u50 u51 u52 u53 u54 u55 u56 u57 u58 u59 u60 u61 u62 u63 u64 u65 u66 u67 u68 u69 u70 u71 u72 u73 u74 : Value, a' = ⟨#[.pointer (some ⟨g, 0, none⟩), s1, s2, s3, s4, .pointer (some ⟨X5, 0, none⟩), u6, u7, u8, u9, s10, s11, s12, s13, s14, s15, s16, s17, s18, s19, s20, s21, s22, s23, s24, s25, s26, s27, s28, s29, u30, u31, u32, u33, u34, u35, u36, u37, u38, u39, u40, u41, u42, u43, u44, u45, u46, u47, u48, u49, u50, u51, u52, u53, u54, u55, u56, u57, u58, u59, u60, u61, u62, u63, u64, u65, u66, u67, u68, u69, u70, u71, u72, u73, u74, s75, s76, s77, s78, s79, s80, s81, s82, s83, s84, s85, s86, s87, s88, s89, s90, s91, s92, s93, s94, s95, s96, s97, s98, s99, s100, s101, s102, s103, s104, s105, s106, s107, s108, s109, s110, s111, s112, s113, s114, s115, s116, s117], []⟩)) ⟨#[.pointer (some ⟨g, 0, none⟩), s1, s2, s3, s4, .pointer (some ⟨X5, 0, none⟩), .int .u64 tot, .int .u8 97, .int .i64 k, s9, s10, s11, s12, s13, s14, s15, s16, s17, s18, s19, s20, s21, s22, s23, s24, s25, s26, s27, s28, s29, s30, s31, s32, s33, s34, s35, s36, s37, s38, s39, s40, s41, s42, s43, s44, s45, s46, s47, s48, s49, s50, s51, s52, s53, s54, s55, s56, s57, s58, s59, s60, s61, s62, s63, s64, s65, s66, s67, s68, s69, s70, s71, s72, s73, s74, s75, s76, s77, s78, s79, s80, s81, s82, s83, s84, s85, s86, s87, s88, s89, s90, s91, s92, s93, s94, s95, s96, s97, s98, s99, s100, s101, s102, s103, s104, s105, s106, s107, s108, s109, s110, s111, s112, s113, s114, s115, s116, s117], []⟩ w0 := by
  have hg0 := hD.lt
  have hX0 := hB.lt
  have hBg := hD.le
  have HI : Hid (LSt w0 B g X5 tot tot 97 [] none 0 w0) := hide ⟨EOk.nil tot t0 97, Own.nil _ _ _ _, hB, hD, Keeps.refl _ _⟩
  clear hB hD
  conv => arg 2; arg 1; whnf
  dsimp only
  go_loopw [6, 7, 8] (fun lv yv kv wr => ∃ (left : Int) (kb : Nat) (k : Int) (l : List Ln) (A : Option Addr) (cp : Nat), (0 ≤ k ∧ (l.length : Int) + k ≤ 4) ∧ (97 ≤ kb ∧ (kb : Int) + 3 * k ≤ 109) ∧ lv = .int .u64 left ∧ yv = .int .u8 (kb : Int) ∧ kv = .int .i64 k ∧ Hid (LSt w0 B g X5 tot left kb l A cp wr)) (fun _ _ kv _ => (intOf kv).toNat)
  case atStart => exact ⟨tot, 97, k, [], none, 0, ⟨k0, by simpa using k4⟩, ⟨by omega, by omega⟩, rfl, rfl, rfl, HI⟩
  case round =>
    obtain ⟨left, kb, k, l, A, cp, ⟨hk0, hk4⟩, ⟨hkb0, hkb1⟩, rfl, rfl, rfl, HL⟩ := hrel
    have hlt0 := HL.out.ok.left0
    have hsum := HL.out.ok.sum
    by_cases h1 : 0 < k
    · by_cases h2 : 0 < left
      · have hltot : left ≤ tot := by
          have : ∀ l : List Ln, (∀ x ∈ l, 1 ≤ x.lo) → 0 ≤ (l.map Ln.lo).sum := by
            intro l hl
            induction l with
            | nil => simp
            | cons x l ih =>
              have h1 := hl x (by simp)
              have h2 := ih (fun y hy => hl y (by simp [hy]))
              simp; omega
          have := this l (fun x hx => (HL.out.ok.own x hx).1)
          omega
        have DK := hide HL.out.dk
        have HK : Hid (k ≤ 4 ∧ 1 ≤ k) := by show _ ∧ _; omega
        clear hsum
        go_wp2_with fail
        refine (next_any _ (by omega) (by omega) B g wr DK.out).mono ?_
        rintro e w2 ⟨x, rfl, x0, x1, hd, k2⟩
        have e1 : IntKind.i64.wrap (1 + x) = 1 + x := IntWalk.i64_in _ (by omega)
        have e2 : IntKind.u8.wrap (1 + x) = 1 + x := by rw [IntKind.wrap_u8]; omega
        have e3 : IntKind.u8.wrap ((kb : Int) + (1 + x)) = (kb : Int) + (1 + x) := by rw [IntKind.wrap_u8]; omega
        have DK2 := hide hd
        have KK := hide (HL.out.kp.step k2 (fun b hb e => Or.inl e))
        have BL := hide (HL.out.blk.kept k2 h5)
        have hownb : ∀ b, inB A b → b ≠ g := fun b hb e => by have := (HL.out.own.inB hb).1; omega
        have OW := hide (HL.out.own.kept k2 (fun b hb e => hownb b hb e))
        have OKL := hide HL.out.ok
        have hAo : ∀ b, inB A b → b < w2.heap.size := fun b hb => (OW.out.inB hb).2
        clear hd k2 DK HL HI hownb
        go_upto_region 10 with fail
        trace "R10"
        clear e1 e2 e3
        obtain ⟨n, hn, hn1, hn2⟩ : ∃ n : Nat, (kb : Int) + (1 + x) = (n : Int) ∧ kb < n ∧ n ≤ kb + 3 := ⟨((kb : Int) + (1 + x)).toNat, by omega, by omega, by omega⟩
        rw [hn]
        clear hn x0 x1
        refine Code.wp_mono ?_ (reg10 B g w2 left (n : Int) (by omega) (by omega) (by omega) (by omega) DK2.out _ _ _ _ _ _ _ _ _ _ _ _ _ _ _ _ _ _ _ _ _ _ _ _ _ _ _ _ _ _ _ _ _ _ _ _ _ _ _ _ _ _ _ _ _ _ _ _ _ _ _ _ _ _ _ _ _ _ _ _ _ _ _ _ _ _ _ _ _ _ _ _ _ _ _ _ _ _ _ _ _ _ _ _ _ _ _ _ _ _ _ _ _ _ _ _ _ _ _ _ _ _ _ _ _ _ _ _ _ _ _ _ _ _ _)
        intro e a' w3 hex
        cases e <;> (first | exact hex.elim | skip)
        obtain ⟨gx, ⟨own, o1, o2, bx, hgx, dk3, k3⟩, ⟨v44, v45, v46, v47, v48, v49, v50, v51, v52, v53, rfl⟩⟩ := hex
        rw [show ((n : Int)).toNat = n from by omega] at bx
        have hk2 := KK.out.size
        have DK3 := hide dk3
        have BX3 := hide bx
        have KK := hide (KK.out.step k3 (fun b hb e => Or.inl e))
        have BL := hide (BL.out.kept k3 h5)
        have OW := hide (OW.out.kept k3 (fun b hb e => by have := (OW.out.inB hb).1; omega))
        have c5 : w3.cell? ⟨X5, 0, none⟩ = some (.int .u64 tot) := BL.out.cell 0
        clear dk3 bx k3 DK2
        dsimp only
        go_upto_region 11 with fail
        trace "R11"
        refine Code.wp_mono ?_ (reg11 B g X5 gx w3 tot own (keyOf n) o1 (by omega) t2 DK3.out c5 h5 (by omega) (by omega) (by omega) BX3.out _ _ _ _ _ _ _ _ _ _ _ _ _ _ _ _ _ _ _ _ _ _ _ _ _ _ _ _ _ _ _ _ _ _ _ _ _ _ _ _ _ _ _ _ _ _ _ _ _ _ _ _ _ _ _ _ _ _ _ _ _ _ _ _ _ _ _ _ _ _ _ _ _ _ _ _ _ _ _ _ _ _ _ _ _ _ _ _ _ _ _ _ _ _ _ _ _ _ _ _ _ _ _ _ _ _ _ _ _ _ _ _ _ _ _)
        intro e a' w4 hex
        cases e <;> (first | exact hex.elim | skip)
        obtain ⟨sl, ⟨sl0, sl1⟩, bx, dk4, k4', ⟨x54, x55, x56, x57, x58, x59, x60, x61, x62, x63, x64, rfl⟩⟩ := hex
        have DK4 := hide dk4
        have BX4 := hide bx
        have KK := hide (KK.out.step k4' (fun b hb e => by rcases e with e | e; exact Or.inl e; omega))
        have BL := hide (BL.out.kept k4' (by omega))
        have hgo : ∀ b, inB A b → b ≠ gx := fun b hb e => by have := hAo b hb; omega
        have OW := hide (OW.out.kept k4' (fun b hb e => by rcases e with e | e; (have := (OW.out.inB hb).1; omega); exact hgo b hb e))
        clear dk4 bx k4' DK3 BX3 c5 hgo hAo
        dsimp only
        have q1 : w4.cell? ⟨gx, 1, none⟩ = some (.int .u64 own) := BX4.out.cell 1
        have e1 : IntKind.u64.wrap (left - own) = left - own := IntWalk.u64_in _ (by omega)
        go_upto_region 13 with fail
        trace "R13"
        have q0 : w4.cell? ⟨gx, 0, none⟩ = some (.string (keyOf n)) := BX4.out.cell 0
        have q2 : w4.cell? ⟨gx, 2, none⟩ = some (.int .u64 sl) := BX4.out.cell 2
        have p1 : w4.cell? ⟨X5, 1, none⟩ = some (.slice A l.length cp) := BL.out.cell 1
        have hX4 := BL.out.lt
        have hOK : EOk tot (left - own) n (l ++ [⟨keyOf n, own, sl⟩]) := OKL.out.snoc hkb0 n (by omega) (by omega) own sl o1 o2 sl0 sl1
        have HOK := hide hOK
        have hll : l.length ≤ 4 := by omega
        have hw4 := KK.out.size
        obtain ⟨ll, hll2⟩ : ∃ ll, ll = l.length := ⟨_, rfl⟩
        rw [← hll2] at OW BL p1 hll hk4
        have HLL := hide hll2
        have kA := (Keeps.refl (fun _ => False) w4).alloc (.cells #[.string (keyOf n), .int .u64 own, .int .u64 sl] 99)
        have HOA := hide (OW.out.kept kA (fun _ _ h => h))
        have HRA := hide (show Rd (w4.alloc (.cells #[.string (keyOf n), .int .u64 own, .int .u64 sl] 99)) (w4.alloc (.cells #[.string (keyOf n), .int .u64 own, .int .u64 sl] 99)).heap.size (some ⟨w4.heap.size, 0, none⟩) 3 1 (lnCs [⟨keyOf n, own, sl⟩]) from (Blk.new w4 99 #[.string (keyOf n), .int .u64 own, .int .u64 sl]).rd (xs := [.string (keyOf n), .int .u64 own, .int .u64 sl]) (n := 1) (sz := 3) rfl)
        have HBA := hide (BL.out.kept kA (fun h => h))
        have HDA := hide (DK4.out.kept kA (fun h => h) (fun _ _ h => h))
        have HKA := hide (KK.out.step kA (fun _ _ h => h.elim))
        clear hll2 OKL hOK OW DK4 KK kA BL
        go_upto_region 8 with (at_builtin; refine wpList_app _ elemE rfl (.tmp 70) (.tmp 72) rfl w0.heap.size (lnCs l) rfl HOA.out _ (m := 1) (lnCs [⟨keyOf n, own, sl⟩]) rfl HRA.out (lnCs_one _) (by simp only [maxLen]; omega) (by omega) (by simp; omega) ?_; intro A7 c7 w7 o7 k7 _; rw [← lnCs_app] at o7; have O7 := hide o7; have hX27 : ∀ b, inB A b → w0.heap.size ≤ b := (fun b hb => (HOA.out.inB hb).1); have B7 := hide (HBA.out.kept k7 (fun h => by have := hX27 _ h; omega)); have D7 := hide (HDA.out.kept k7 (fun h => by have := hX27 _ h; omega) (fun b hb h => by have := hX27 _ h; omega)); have K7 := hide (HKA.out.step k7 (fun k hk h => by have := hX27 _ h; omega)); have q14 := B7.out.cell 1; have f14 := B7.out.frozen 1; clear o7 k7)
        trace "R8"
        have kS : Keeps (· = X5) w7 (w7.setCell ⟨X5, 1, none⟩ (.slice A7 (ll + 1) c7)) := Keeps.setCell (S := (· = X5)) (p := ⟨X5, 1, none⟩) (Keeps.refl _ _) (.inl rfl) _
        have hl1 : (l ++ [(⟨keyOf n, own, sl⟩ : Ln)]).length = ll + 1 := by rw [List.length_append, ← HLL.out]; rfl
        have HN : Hid (LSt w0 B g X5 tot (left - own) n (l ++ [⟨keyOf n, own, sl⟩]) A7 c7 (w7.setCell ⟨X5, 1, none⟩ (.slice A7 (ll + 1) c7))) := hide ⟨HOK.out, by rw [hl1]; exact O7.out.kept kS (fun b hb e => by have := (O7.out.inB hb).1; omega), by rw [hl1]; exact B7.out.set 1 _, D7.out.kept kS (fun h => h5 h.symm) (fun b hb e => by omega), K7.out.step kS (fun b hb e => Or.inr e)⟩
        have hkb : (kb : Int) + 3 * k ≤ 109 ∧ (n : Int) + 3 * (k - 1) ≤ 109 := by omega
        have HLN : Hid (((l ++ [(⟨keyOf n, own, sl⟩ : Ln)]).length : Int) + (k - 1) ≤ 4) := by show _ ≤ _; rw [hl1]; omega
        have HKN := hide hkb.2
        clear kS HOA HRA HBA HDA HKA O7 B7 D7 K7 q14 f14 q0 q1 q2 p1 HOK hkb hl1
        generalize w7.setCell _ _ = w8 at *
        have e5 : IntKind.i64.wrap (k - 1) = k - 1 := IntWalk.i64_in _ (by omega)
        go_wp2_with fail
        trace "ROUND"
        go_roundw
        case rel => exact ⟨left - own, n, k - 1, _, A7, c7, ⟨by have := HK.out; omega, HLN.out⟩, ⟨by omega, HKN.out⟩, rfl, rfl, by go_num, HN⟩
        case measure => have := HK.out; simp [intOf]; omega
      · have d2 : ¬ (0 < left) := h2
        clear HI
        go_wp2_with fail
        trace "END2"
        have HLL : l.length ≤ 4 := by omega
        first | exact ⟨rfl, left, kb, l, A, cp, HLL, HL.out, _, _, _, _, _, _, _, _, _, _, _, _, _, _, _, _, _, _, _, _, _, _, _, _, _, _, _, _, _, _, _, _, _, _, _, _, _, _, _, _, _, _, _, _, _, _, _, _, _, rfl⟩ | exact ⟨rfl, left, kb, l, HLL, ⟨A, cp, HL.out⟩, _, _, _, _, _, _, _, _, _, _, _, _, _, _, _, _, _, _, _, _, _, _, _, _, _, _, _, _, _, _, _, _, _, _, _, _, _, _, _, _, _, _, _, _, _, _, _, _, _, rfl⟩ | exact ⟨rfl, left, kb, l, ⟨HLL, ⟨A, cp, HL.out⟩⟩, _, _, _, _, _, _, _, _, _, _, _, _, _, _, _, _, _, _, _, _, _, _, _, _, _, _, _, _, _, _, _, _, _, _, _, _, _, _, _, _, _, _, _, _, _, _, _, _, _, rfl⟩ | (trace_state; fail)
    · have d1 : ¬ (0 < k) := h1
      clear HI
      go_wp2_with fail
      trace "END1"
      have HLL : l.length ≤ 4 := by omega
      first | exact ⟨rfl, left, kb, l, A, cp, HLL, HL.out, _, _, _, _, _, _, _, _, _, _, _, _, _, _, _, _, _, _, _, _, _, _, _, _, _, _, _, _, _, _, _, _, _, _, _, _, _, _, _, _, _, _, _, _, _, _, _, _, _, rfl⟩ | exact ⟨rfl, left, kb, l, HLL, ⟨A, cp, HL.out⟩, _, _, _, _, _, _, _, _, _, _, _, _, _, _, _, _, _, _, _, _, _, _, _, _, _, _, _, _, _, _, _, _, _, _, _, _, _, _, _, _, _, _, _, _, _, _, _, _, _, rfl⟩ | exact ⟨rfl, left, kb, l, ⟨HLL, ⟨A, cp, HL.out⟩⟩, _, _, _, _, _, _, _, _, _, _, _, _, _, _, _, _, _, _, _, _, _, _, _, _, _, _, _, _, _, _, _, _, _, _, _, _, _, _, _, _, _, _, _, _, _, _, _, _, _, rfl⟩ | (trace_state; fail)
end dsum
end Go.Proofs.Ytaiopdipldaimaa
