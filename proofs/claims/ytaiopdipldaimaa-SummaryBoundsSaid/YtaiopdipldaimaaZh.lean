/-
  SummaryBounds: the loop over the keys. No conditions beyond those of the statement.
-/
import Derived.Test.YtaiopdipldaimaaZg
set_option linter.unusedVariables false
set_option linter.unusedSimpArgs false
namespace Go.Proofs.Ytaiopdipldaimaa
open Go.RowKit Cfp
namespace sbounds
def firstLoop : Code → Option Code
  | .loop c => some c
  | .seq a b => match firstLoop a with
    | some c => some c
    | none => firstLoop b
  | .block _ c => firstLoop c
  | .scope c => firstLoop c
  | .cond _ a b => match firstLoop a with
    | some c => some c
    | none => firstLoop b
  | _ => none
def LoopPostK (k : Nat) (W : Act → World → Prop) : Exit → Act → World → Prop
  | .exit i, a, w => i = k ∧ W a w
  | _, _, _ => False
noncomputable def oloop : Code := ((Try.f11.body.bind firstLoop).getD .skip)
noncomputable def iloop : Code := (((Try.f11.body.bind firstLoop).bind firstLoop).getD .skip)
/-- both packages answer alike on a key, in any world kept behind this one -/
def Agree (w1 : World) (cv sv : Value) (k : ByteArray) : Prop := ∃ (lo hi est : Int) (f : Bool),
  (∀ W, Keeps (fun _ => False) w1 W → Calls Try.prog 42 #[cv, sv, .string k] W fun e w' => e = .returned (.tuple #[bnd lo hi, .bool f]) ∧ Keeps (fun _ => False) W w') ∧
  (∀ W, Keeps (fun _ => False) w1 W → Calls Try.prog 43 #[cv, sv, .string k] W fun e w' => e = .returned (.tuple #[bnd lo hi, .bool f]) ∧ Keeps (fun _ => False) W w') ∧
  (∀ W, Keeps (fun _ => False) w1 W → Calls Try.prog 44 #[cv, sv, .string k] W fun e w' => e = .returned (.int .u64 est) ∧ Keeps (fun _ => False) W w') ∧
  (∀ W, Keeps (fun _ => False) w1 W → Calls Try.prog 45 #[cv, sv, .string k] W fun e w' => e = .returned (.int .u64 est) ∧ Keeps (fun _ => False) W w')
theorem Agree.kept {w1 w2 : World} {cv sv : Value} {k : ByteArray} (h : Agree w1 cv sv k) (kk : Keeps (fun _ => False) w1 w2) : Agree w2 cv sv k := by
  obtain ⟨lo, hi, est, f, h1, h2, h3, h4⟩ := h
  exact ⟨lo, hi, est, f, fun W kW => h1 W (kk.trans kW), fun W kW => h2 W (kk.trans kW), fun W kW => h3 W (kk.trans kW), fun W kW => h4 W (kk.trans kW)⟩
set_option maxRecDepth 1000000 in
set_option maxHeartbeats 4000000 in
theorem inner (w6 : World) (X12 X15 GK : Nat) (c : Cfg) (C T : Option Addr) (n0 k0 q j : Nat) (tot un : Int) (A R : Option Addr) (n cA m cR : Nat) (ks : List ByteArray) (hl : ks.length = 3)
    (hF : ∀ k ∈ ks, Agree w6 (Value.agg #[.int .i64 c.length, .int .i64 c.lateness, .int .i64 c.windows, .int .i64 c.shards, .int .i64 c.spread, .int .i64 c.queue, .int .i64 c.mode, .int .i64 c.slots, .int .i64 c.exact_, .int .u64 c.promote, .int .i64 c.depth, .int .i64 c.width, .int .i64 c.top, .int .i64 c.key, .slice C n0 k0, .slice T q j, .int .u64 c.seed]) (smV tot A n cA un R m cR) k)
    (b12 : Blk w6 X12 51 #[.int .i64 c.length, .int .i64 c.lateness, .int .i64 c.windows, .int .i64 c.shards, .int .i64 c.spread, .int .i64 c.queue, .int .i64 c.mode, .int .i64 c.slots, .int .i64 c.exact_, .int .u64 c.promote, .int .i64 c.depth, .int .i64 c.width, .int .i64 c.top, .int .i64 c.key, .slice C n0 k0, .slice T q j, .int .u64 c.seed]) (b15 : Blk w6 X15 45 (smC tot A n cA un R m cR)) (bG : Blk w6 GK 9 (ks.map Value.string).toArray) (s0 s1 s2 s3 s4 s5 s6 s7 s8 s9 s10 s11 s13 s14 s16 s17 s18 s19 s20 s21 s22 s23 s24 s25 s26 s27 s28 s29 s30 s31 s32 s33 s34 s35 s36 s37 s38 s39 s40 s41 s42 s43 s44 s45 s46 s47 s48 s49 s50 s54 s55 s56 s57 s58 s59 s60 s61 s62 s63 s64 s65 s66 s67 s68 s69 s70 s71 s72 s73 s74 s75 s76 s77 s78 s79 s80 s81 s82 s83 s84 s85 s86 s87 s88 s89 s90 s91 s92 : Value) :
    Code.wp Try.prog (Code.loop iloop) (LoopPostK 2 fun a' w' => (∃ u10 u17 u18 u19 u20 u21 u53 u54 u55 u56 u57 u58 u59 u60 u61 u62 u63 u64 u65 u66 u67 u68 u69 u70 u71 u72 u73 u74 u75 u76 u77 u78 u79 u80 u81 u82 u83 u84 u85 u86 u87 u88 u89 u90 : Value, a' = ⟨#[s0, s1, s2, s3, s4, s5, s6, s7, s8, s9, u10, s11, .pointer (some ⟨X12, 0, none⟩), s13, s14, .pointer (some ⟨X15, 0, none⟩), s16, u17, u18, u19, u20, u21, s22, s23, s24, s25, s26, s27, s28, s29, s30, s31, s32, s33, s34, s35, s36, s37, s38, s39, s40, s41, s42, s43, s44, s45, s46, s47, s48, s49, s50, .slice (some ⟨GK, 0, none⟩) 3 3, .int .i64 3, u53, u54, u55, u56, u57, u58, u59, u60, u61, u62, u63, u64, u65, u66, u67, u68, u69, u70, u71, u72, u73, u74, u75, u76, u77, u78, u79, u80, u81, u82, u83, u84, u85, u86, u87, u88, u89, u90, s91, s92], []⟩) ∧ Keeps (fun _ => False) w6 w') ⟨#[s0, s1, s2, s3, s4, s5, s6, s7, s8, s9, s10, s11, .pointer (some ⟨X12, 0, none⟩), s13, s14, .pointer (some ⟨X15, 0, none⟩), s16, s17, s18, s19, s20, s21, s22, s23, s24, s25, s26, s27, s28, s29, s30, s31, s32, s33, s34, s35, s36, s37, s38, s39, s40, s41, s42, s43, s44, s45, s46, s47, s48, s49, s50, .slice (some ⟨GK, 0, none⟩) 3 3, .int .i64 3, .int .i64 0, s54, s55, s56, s57, s58, s59, s60, s61, s62, s63, s64, s65, s66, s67, s68, s69, s70, s71, s72, s73, s74, s75, s76, s77, s78, s79, s80, s81, s82, s83, s84, s85, s86, s87, s88, s89, s90, s91, s92], []⟩ w6 := by
  have HF := hide hF
  have BX := hide b12
  have BS := hide b15
  have BG := hide bG
  have HL := hide hl
  clear hF b12 b15 bG hl
  conv => arg 2; arg 1; whnf
  dsimp only
  go_loopw [53] (fun iv wr => ∃ i : Nat, i ≤ 3 ∧ iv = .int .i64 i ∧ Hid (Keeps (fun _ => False) w6 wr)) (fun iv _ => 3 - (intOf iv).toNat)
  case atStart => exact ⟨0, by omega, rfl, hide (Keeps.refl _ _)⟩
  case round =>
    obtain ⟨i, hi, rfl, KR⟩ := hrel
    by_cases hlt : i < 3
    · have HLT : Hid (i + 1 ≤ 3) := hlt
      obtain ⟨k, hk⟩ : ∃ k, ks[i]? = some k := ⟨ks[i]'(by rw [HL.out]; exact hlt), List.getElem?_eq_getElem _⟩
      have hk0 : wr.cell? ⟨GK, i, none⟩ = some (.string k) := by rw [(BG.out.kept KR.out (fun h => h)).cell]; simp [hk]
      obtain ⟨lo, hh, est, f, h1, h2, h3, h4⟩ := HF.out k (List.mem_of_getElem? hk)
      have H1 := hide h1
      have H2 := hide h2
      have H3 := hide h3
      have H4 := hide h4
      have hiI : (i : Int) < 3 := by omega
      have hi0 : (0 : Int) ≤ (i : Int) := by omega
      have bxr := hide (BX.out.kept KR.out (fun h => h))
      have bsr := hide (BS.out.kept KR.out (fun h => h))
      have y0 : wr.cell? ⟨X15, 0, none⟩ = some (.int .u64 tot) := bsr.out.cell 0
      have y1 : wr.cell? ⟨X15, 1, none⟩ = some (.slice A n cA) := bsr.out.cell 1
      have y2 : wr.cell? ⟨X15, 2, none⟩ = some (.int .u64 un) := bsr.out.cell 2
      have y3 : wr.cell? ⟨X15, 3, none⟩ = some (.slice R m cR) := bsr.out.cell 3
      clear hk h1 h2 h3 h4
      go_wp2_with (refine cfg_ld _ rfl bxr.out rfl (by rfl) ?_; simp only [Act.put, List.setIfInBounds_toArray, List.set_cons_zero, List.set_cons_succ])
      trace "B1"
      refine (H1.out _ KR.out).mono ?_
      rintro e w7 ⟨rfl, k7⟩
      have K7 := hide (KR.out.trans k7)
      have b18 := Blk.new w7 81 (bndC lo hh)
      have kA := (Keeps.refl (fun _ => False) w7).alloc (.cells (bndC lo hh) 81)
      have K8 := hide (K7.out.trans kA)
      have B18 := hide b18
      clear k7 b18 kA y0 y1 y2 y3 hk0 bxr bsr
      go_upto_region 13 with fail
      trace "R13"
      generalize w7.alloc _ = w8 at *
      generalize w7.heap.size = X18 at *
      have bxr := hide (BX.out.kept K8.out (fun h => h))
      have bsr := hide (BS.out.kept K8.out (fun h => h))
      have y0 : w8.cell? ⟨X15, 0, none⟩ = some (.int .u64 tot) := bsr.out.cell 0
      have y1 : w8.cell? ⟨X15, 1, none⟩ = some (.slice A n cA) := bsr.out.cell 1
      have y2 : w8.cell? ⟨X15, 2, none⟩ = some (.int .u64 un) := bsr.out.cell 2
      have y3 : w8.cell? ⟨X15, 3, none⟩ = some (.slice R m cR) := bsr.out.cell 3
      go_wp2_with (refine cfg_ld _ rfl bxr.out rfl (by rfl) ?_; simp only [Act.put, List.setIfInBounds_toArray, List.set_cons_zero, List.set_cons_succ])
      trace "B2"
      refine (H2.out _ K8.out).mono ?_
      rintro e w9 ⟨rfl, k9⟩
      have b20 := Blk.new w9 81 (bndC lo hh)
      have kA := (Keeps.refl (fun _ => False) w9).alloc (.cells (bndC lo hh) 81)
      have K10 := hide ((K8.out.trans k9).trans kA)
      have B20 := hide b20
      have B18 := hide (B18.out.kept (k9.trans kA) (fun h => h))
      clear k9 b20 kA y0 y1 y2 y3 bxr bsr
      go_upto_region 14 with fail
      trace "R14"
      generalize w9.alloc _ = w10 at *
      generalize w9.heap.size = X20 at *
      have H3n := hide (fun W (kW : Keeps (fun _ => False) w10 W) => H3.out W (K10.out.trans kW))
      have H4n := hide (fun W (kW : Keeps (fun _ => False) w10 W) => H4.out W (K10.out.trans kW))
      refine Code.wp_mono ?_ (reg14 w10 X12 X15 X18 X20 c C T n0 k0 q j tot un A R n cA m cR k lo hh est f H3n H4n (BX.out.kept K10.out (fun h => h)) (BS.out.kept K10.out (fun h => h)) B18.out B20.out _ _ _ _ _ _ _ _ _ _ _ _ _ _ _ _ _ _ _ _ _ _ _ _ _ _ _ _ _ _ _ _ _ _ _ _ _ _ _ _ _ _ _ _ _ _ _ _ _ _ _ _ _ _ _ _ _ _ _ _ _ _ _ _ _ _ _ _ _ _ _ _ _ _ _ _ _ _ _ _ _ _ _ _ _ _)
      intro e a' w'' hex
      cases e <;> (first | exact hex.elim | skip)
      obtain ⟨k15, ⟨u71, u72, u73, u74, u75, u76, u77, u78, u79, u80, u81, u82, u83, u84, u85, u86, u87, u88, rfl⟩⟩ := hex
      have K15 := hide (K10.out.trans k15)
      clear k15
      dsimp only
      go_wp2_with fail
      go_roundw
      case rel => exact ⟨i + 1, HLT.out, by go_num, K15⟩
      case measure => have := HLT.out; simp [intOf]; omega
    · obtain rfl : i = 3 := by omega
      go_wp2_with fail
      trace "END"
      refine ⟨rfl, ⟨_, _, _, _, _, _, _, _, _, _, _, _, _, _, _, _, _, _, _, _, _, _, _, _, _, _, _, _, _, _, _, _, _, _, _, _, _, _, _, _, _, _, _, _, rfl⟩, KR.out⟩
end sbounds
end Go.Proofs.Ytaiopdipldaimaa
