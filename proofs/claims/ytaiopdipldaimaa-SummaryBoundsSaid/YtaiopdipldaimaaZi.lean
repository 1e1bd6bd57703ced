/-
  SummaryBounds: the loop over the summaries. No conditions beyond those of the statement.
-/
import Derived.Test.YtaiopdipldaimaaZh
import Derived.Test.YtaiopdipldaimaaSmm
set_option linter.unusedVariables false
set_option linter.unusedSimpArgs false
namespace Go.Proofs.Ytaiopdipldaimaa
open Go.RowKit Cfp
namespace sbounds
set_option maxRecDepth 1000000 in
set_option maxHeartbeats 4000000 in
theorem outer (w6 : World) (X12 GS : Nat) (c : Cfg) (C T : Option Addr) (n0 k0 q j : Nat) (xs : List Sm) (hl : xs.length = 3) (key : ByteArray)
    (hF : ∀ x ∈ xs, ∀ k ∈ [key, ⟨#[98]⟩, ⟨#[100]⟩], Agree w6 (Value.agg #[.int .i64 c.length, .int .i64 c.lateness, .int .i64 c.windows, .int .i64 c.shards, .int .i64 c.spread, .int .i64 c.queue, .int .i64 c.mode, .int .i64 c.slots, .int .i64 c.exact_, .int .u64 c.promote, .int .i64 c.depth, .int .i64 c.width, .int .i64 c.top, .int .i64 c.key, .slice C n0 k0, .slice T q j, .int .u64 c.seed]) (smV x.tot x.A x.n x.cA x.un x.R x.m x.cR) k)
    (b12 : Blk w6 X12 51 #[.int .i64 c.length, .int .i64 c.lateness, .int .i64 c.windows, .int .i64 c.shards, .int .i64 c.spread, .int .i64 c.queue, .int .i64 c.mode, .int .i64 c.slots, .int .i64 c.exact_, .int .u64 c.promote, .int .i64 c.depth, .int .i64 c.width, .int .i64 c.top, .int .i64 c.key, .slice C n0 k0, .slice T q j, .int .u64 c.seed]) (bG : Blk w6 GS 45 (xs.flatMap Sm.cells).toArray) (s0 s1 s2 s3 s5 s6 s7 s8 s9 s10 s11 s13 s14 s15 s16 s17 s18 s19 s20 s21 s22 s23 s24 s25 s26 s27 s28 s29 s30 s31 s32 s33 s34 s35 s36 s37 s38 s39 s40 s41 s42 s43 s47 s48 s49 s50 s51 s52 s53 s54 s55 s56 s57 s58 s59 s60 s61 s62 s63 s64 s65 s66 s67 s68 s69 s70 s71 s72 s73 s74 s75 s76 s77 s78 s79 s80 s81 s82 s83 s84 s85 s86 s87 s88 s89 s90 s91 s92 : Value) :
    Code.wp Try.prog (Code.loop oloop) (LoopPostK 0 fun a' w' => (∃ u10 u15 u17 u18 u19 u20 u21 u46 u47 u48 u49 u50 u51 u52 u53 u54 u55 u56 u57 u58 u59 u60 u61 u62 u63 u64 u65 u66 u67 u68 u69 u70 u71 u72 u73 u74 u75 u76 u77 u78 u79 u80 u81 u82 u83 u84 u85 u86 u87 u88 u89 u90 u91 : Value, a' = ⟨#[s0, s1, s2, s3, .string key, s5, s6, s7, s8, s9, u10, s11, .pointer (some ⟨X12, 0, none⟩), s13, s14, u15, s16, u17, u18, u19, u20, u21, s22, s23, s24, s25, s26, s27, s28, s29, s30, s31, s32, s33, s34, s35, s36, s37, s38, s39, s40, s41, s42, s43, .slice (some ⟨GS, 0, none⟩) 3 3, .int .i64 3, u46, u47, u48, u49, u50, u51, u52, u53, u54, u55, u56, u57, u58, u59, u60, u61, u62, u63, u64, u65, u66, u67, u68, u69, u70, u71, u72, u73, u74, u75, u76, u77, u78, u79, u80, u81, u82, u83, u84, u85, u86, u87, u88, u89, u90, u91, s92], []⟩) ∧ Keeps (fun _ => False) w6 w') ⟨#[s0, s1, s2, s3, .string key, s5, s6, s7, s8, s9, s10, s11, .pointer (some ⟨X12, 0, none⟩), s13, s14, s15, s16, s17, s18, s19, s20, s21, s22, s23, s24, s25, s26, s27, s28, s29, s30, s31, s32, s33, s34, s35, s36, s37, s38, s39, s40, s41, s42, s43, .slice (some ⟨GS, 0, none⟩) 3 3, .int .i64 3, .int .i64 0, s47, s48, s49, s50, s51, s52, s53, s54, s55, s56, s57, s58, s59, s60, s61, s62, s63, s64, s65, s66, s67, s68, s69, s70, s71, s72, s73, s74, s75, s76, s77, s78, s79, s80, s81, s82, s83, s84, s85, s86, s87, s88, s89, s90, s91, s92], []⟩ w6 := by
  have HF := hide hF
  have BX := hide b12
  have BG := hide bG
  have HL := hide hl
  clear hF b12 bG hl
  conv => arg 2; arg 1; whnf
  dsimp only
  go_loopw [46] (fun iv wr => ∃ i : Nat, i ≤ 3 ∧ iv = .int .i64 i ∧ Hid (Keeps (fun _ => False) w6 wr)) (fun iv _ => 3 - (intOf iv).toNat)
  case atStart => exact ⟨0, by omega, rfl, hide (Keeps.refl _ _)⟩
  case round =>
    obtain ⟨i, hi, rfl, KR⟩ := hrel
    by_cases hlt : i < 3
    · have HLT : Hid (i + 1 ≤ 3) := hlt
      obtain ⟨x, hx⟩ : ∃ x, xs[i]? = some x := ⟨xs[i]'(by rw [HL.out]; exact hlt), List.getElem?_eq_getElem _⟩
      have HFx := hide (fun k hk => (HF.out x (List.mem_of_getElem? hx) k hk).kept KR.out)
      have hc0 := sm_get xs i x hx
      obtain ⟨tot, un, A, R, n, cA, m, cR⟩ := x
      have hO : ∀ (t : Nat) (v : Value), (Sm.cells ⟨tot, un, A, R, n, cA, m, cR⟩)[t]? = some v → wr.cell? ⟨GS, i * 4 + t, none⟩ = some v := fun t v hv => by
        rw [(BG.out.kept KR.out (fun h => h)).cell, List.getElem?_toArray]
        exact hc0 t v hv
      have y0 : wr.cell? ⟨GS, i * 4, none⟩ = some (.int .u64 tot) := hO 0 _ rfl
      have y1 : wr.cell? ⟨GS, i * 4 + 1, none⟩ = some (.slice A n cA) := hO 1 _ rfl
      have y2 : wr.cell? ⟨GS, i * 4 + 2, none⟩ = some (.int .u64 un) := hO 2 _ rfl
      have y3 : wr.cell? ⟨GS, i * 4 + 3, none⟩ = some (.slice R m cR) := hO 3 _ rfl
      have hi0 : (0 : Int) ≤ (i : Int) := by omega
      have hiI : (i : Int) < 3 := by omega
      have b15 := Blk.new wr 45 (smC tot A n cA un R m cR)
      have kA := (Keeps.refl (fun _ => False) wr).alloc (.cells (smC tot A n cA un R m cR) 45)
      have BS := hide b15
      have KA := hide kA
      clear hx hc0 hO b15 kA
      go_upto_region 9 with fail
      trace "R9"
      generalize wr.alloc _ = w7 at *
      generalize wr.heap.size = X15 at *
      have bG := Blk.new w7 9 ([key, ⟨#[98]⟩, ⟨#[100]⟩].map Value.string).toArray
      have kB := (Keeps.refl (fun _ => False) w7).alloc (.cells ([key, ⟨#[98]⟩, ⟨#[100]⟩].map Value.string).toArray 9)
      have BK := hide bG
      have HW := hide (show w7.alloc (.cells ([key, ⟨#[98]⟩, ⟨#[100]⟩].map Value.string).toArray 9) = w7.alloc (.cells #[.string key, .string ⟨#[98]⟩, .string ⟨#[100]⟩] 9) from rfl)
      have KB := hide (KA.out.trans kB)
      have BS8 := hide (BS.out.kept kB (fun h => h))
      have K8 := hide (KR.out.trans KB.out)
      clear bG kB y0 y1 y2 y3
      go_wp2_with fail
      rw [← HW.out]
      clear HW
      generalize w7.alloc _ = w8 at *
      generalize w7.heap.size = GK at *
      trace "INNER"
      refine Code.wp_mono ?_ (inner w8 X12 X15 GK c C T n0 k0 q j tot un A R n cA m cR [key, ⟨#[98]⟩, ⟨#[100]⟩] rfl (fun k hk => (HFx.out k hk).kept KB.out) (BX.out.kept K8.out (fun h => h)) BS8.out BK.out _ _ _ _ _ _ _ _ _ _ _ _ _ _ _ _ _ _ _ _ _ _ _ _ _ _ _ _ _ _ _ _ _ _ _ _ _ _ _ _ _ _ _ _ _ _ _ _ _ _ _ _ _ _ _ _ _ _ _ _ _ _ _ _ _ _ _ _ _ _ _ _ _ _ _ _ _ _ _ _ _ _ _ _ _ _ _ _)
      intro e a' w'' hex
      cases e <;> (first | exact hex.elim | skip)
      obtain ⟨rfl, ⟨u10, u17, u18, u19, u20, u21, u53, u54, u55, u56, u57, u58, u59, u60, u61, u62, u63, u64, u65, u66, u67, u68, u69, u70, u71, u72, u73, u74, u75, u76, u77, u78, u79, u80, u81, u82, u83, u84, u85, u86, u87, u88, u89, u90, rfl⟩, k15⟩ := hex
      have K15 := hide (K8.out.trans k15)
      clear k15
      dsimp only
      go_wp2_with fail
      go_roundw
      case rel => exact ⟨i + 1, HLT.out, by go_num, K15⟩
      case measure => have := HLT.out; simp [intOf]; omega
    · obtain rfl : i = 3 := by omega
      go_wp2_with fail
      trace "END"
      refine ⟨rfl, ⟨_, _, _, _, _, _, _, _, _, _, _, _, _, _, _, _, _, _, _, _, _, _, _, _, _, _, _, _, _, _, _, _, _, _, _, _, _, _, _, _, _, _, _, _, _, _, _, _, _, _, _, _, _, rfl⟩, KR.out⟩
end sbounds
end Go.Proofs.Ytaiopdipldaimaa
