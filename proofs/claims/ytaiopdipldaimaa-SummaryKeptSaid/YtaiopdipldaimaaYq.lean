/-
  Encode: the loops over entries and rows, of the program and of the reference. No conditions beyond those of the statement.
-/
import Derived.Test.YtaiopdipldaimaaYp
import Derived.Test.YtaiopdipldaimaaYn
import Derived.Deep.CutBlock
set_option linter.unusedVariables false
set_option linter.unusedSimpArgs false
namespace Go.Proofs.Ytaiopdipldaimaa
open Go.RowKit Vp
namespace enc21
def loops : Code → List Code
  | .loop c => c :: loops c
  | .seq a b => loops a ++ loops b
  | .block _ c => loops c
  | .scope c => loops c
  | .cond _ a b => loops a ++ loops b
  | _ => []
def LoopPostR (k : Nat) (W V : Act → World → Prop) : Exit → Act → World → Prop
  | .exit i, a, w => i = k ∧ W a w
  | .ret, a, w => V a w
  | _, _, _ => False
/-- the bytes of an entry, of a row -/
def encEnt (x : Ln) : List UInt8 := enc x.key.size ++ x.key.data.toList ++ enc x.lo.toNat ++ enc x.hi.toNat
def encNum (r : List Int) : List UInt8 := r.flatMap fun z => enc z.toNat
def encRow (r : List Int) : List UInt8 := enc r.length ++ encNum r
/-- a slice of bytes reads as L -/
def BSt (w0 : World) (L : List UInt8) (v : Value) (wr : World) : Prop := ∃ A n c, v = .slice A n c ∧ n = L.length ∧ Rd wr wr.heap.size A 1 n (L.map by8) ∧ Keeps (fun _ => False) w0 wr
theorem take_flat {α : Type} {f : α → List UInt8} {l : List α} {i : Nat} {x : α} (h : l[i]? = some x) : (l.take (i + 1)).flatMap f = (l.take i).flatMap f ++ f x := by
  rw [List.take_add_one, h, List.flatMap_append]; simp
noncomputable def slp1 : Code := ((Try.f26.body.bind fun c => (loops c)[1]?).getD .skip)
set_option maxRecDepth 1000000 in
set_option maxHeartbeats 4000000 in
theorem sloopE (w0 : World) (B : Nat) (AE : Option Addr) (n cE : Nat) (l : List Ln) (hl : Rd w0 B AE 3 n (lnCs l)) (hB : B ≤ w0.heap.size) (hU : ∀ x ∈ l, U x.lo ∧ U x.hi) (hn : n ≤ 96) (L0 : List UInt8) (v0 : Value) (h0 : BSt w0 L0 v0 w0) (hL : L0.length ≤ 1000) (s0 s1 s2 s3 s4 s5 s7 s8 s9 s10 s11 s12 s13 s14 s15 s16 s17 s18 s19 s20 s21 s22 s23 s24 s25 s26 s27 s28 s29 s30 s31 s32 s33 s34 s35 s36 s37 s38 s39 s40 s41 s42 s43 s44 s45 s46 s47 s51 s52 s53 s54 s55 s56 s57 s58 s59 s60 s61 s62 s63 s64 s65 s66 s67 s68 s69 s70 s71 s72 s73 s74 s75 s76 s77 s78 s79 s80 s81 s82 s83 s84 s85 s86 s87 s88 s89 s90 s91 s92 s93 s94 s95 s96 s97 s98 s99 s100 s101 s102 s103 s104 : Value) :
    Code.wp Try.prog (Code.loop slp1) (LoopPostR 2 (fun a' w' => (∀ x ∈ l, x.key.size ≤ 255) ∧ (L0 ++ l.flatMap encEnt).length ≤ 1000 + 290 * n ∧ (∃ v, BSt w0 (L0 ++ l.flatMap encEnt) v w' ∧ (∃ u2 u3 u8 u50 u51 u52 u53 u54 u55 u56 u57 u58 u59 u60 u61 u62 u63 u64 u65 u66 u67 u68 u69 u70 u71 u72 u73 u74 : Value, a' = ⟨#[s0, s1, u2, u3, s4, s5, v, s7, u8, s9, s10, s11, s12, s13, s14, s15, s16, s17, s18, s19, s20, s21, s22, s23, s24, s25, s26, s27, s28, s29, s30, s31, s32, s33, s34, s35, s36, s37, s38, s39, s40, s41, s42, s43, s44, s45, s46, s47, .slice AE n cE, .int .i64 (n : Int), u50, u51, u52, u53, u54, u55, u56, u57, u58, u59, u60, u61, u62, u63, u64, u65, u66, u67, u68, u69, u70, u71, u72, u73, u74, s75, s76, s77, s78, s79, s80, s81, s82, s83, s84, s85, s86, s87, s88, s89, s90, s91, s92, s93, s94, s95, s96, s97, s98, s99, s100, s101, s102, s103, s104], []⟩))) (fun a' w' => (∃ x ∈ l, 255 < x.key.size) ∧ Keeps (fun _ => False) w0 w' ∧ (∃ u6 u8 u50 u51 u52 u53 u54 u55 u56 u57 u58 u59 u60 u61 u62 u63 u64 u65 u66 u67 u68 u69 u70 u71 u72 u73 u74 : Value, a' = ⟨#[s0, s1, .slice none 0 0, .int .i64 4, s4, s5, u6, s7, u8, s9, s10, s11, s12, s13, s14, s15, s16, s17, s18, s19, s20, s21, s22, s23, s24, s25, s26, s27, s28, s29, s30, s31, s32, s33, s34, s35, s36, s37, s38, s39, s40, s41, s42, s43, s44, s45, s46, s47, .slice AE n cE, .int .i64 (n : Int), u50, u51, u52, u53, u54, u55, u56, u57, u58, u59, u60, u61, u62, u63, u64, u65, u66, u67, u68, u69, u70, u71, u72, u73, u74, s75, s76, s77, s78, s79, s80, s81, s82, s83, s84, s85, s86, s87, s88, s89, s90, s91, s92, s93, s94, s95, s96, s97, s98, s99, s100, s101, s102, s103, s104], []⟩))) ⟨#[s0, s1, s2, s3, s4, s5, v0, s7, s8, s9, s10, s11, s12, s13, s14, s15, s16, s17, s18, s19, s20, s21, s22, s23, s24, s25, s26, s27, s28, s29, s30, s31, s32, s33, s34, s35, s36, s37, s38, s39, s40, s41, s42, s43, s44, s45, s46, s47, .slice AE n cE, .int .i64 (n : Int), .int .i64 0, s51, s52, s53, s54, s55, s56, s57, s58, s59, s60, s61, s62, s63, s64, s65, s66, s67, s68, s69, s70, s71, s72, s73, s74, s75, s76, s77, s78, s79, s80, s81, s82, s83, s84, s85, s86, s87, s88, s89, s90, s91, s92, s93, s94, s95, s96, s97, s98, s99, s100, s101, s102, s103, s104], []⟩ w0 := by
  have HL := hide hl
  have hln := lnRd_len hl
  have HU := hide hU
  have HLN := hide hln
  have H0 := hide h0
  clear hl hU h0 hln
  conv => arg 2; arg 1; whnf
  dsimp only
  go_loopw [6, 50] (fun bv iv wr => ∃ i : Nat, i ≤ n ∧ iv = .int .i64 i ∧ Hid ((∀ x ∈ l.take i, x.key.size ≤ 255) ∧ (L0 ++ (l.take i).flatMap encEnt).length ≤ 1000 + 290 * i ∧ BSt w0 (L0 ++ (l.take i).flatMap encEnt) bv wr)) (fun _ iv _ => n - (intOf iv).toNat)
  case atStart => exact ⟨0, by omega, rfl, hide ⟨fun x hx => by simp at hx, by simpa using hL, by simpa using H0.out⟩⟩
  case round =>
    obtain ⟨i, hi, rfl, HS⟩ := hrel
    by_cases hlt : i < n
    · have HLT : Hid (i + 1 ≤ n) := hlt
      obtain ⟨x, hx⟩ : ∃ x, l[i]? = some x := ⟨l[i]'(by rw [HLN.out]; exact hlt), by simp⟩
      obtain ⟨hs1, hs2, A, nb, cb, rfl, hnb, hrb, kr⟩ := HS.out
      obtain ⟨b, off, rfl, hbB, c0, c1, c2⟩ := lnRd_at (HL.out.kept kr (fun _ _ h => h)) hx (by omega)
      have hbr : b < wr.heap.size := by have := kr.size; omega
      have hiI : (i : Int) < (n : Int) := by omega
      have hi0 : (0 : Int) ≤ (i : Int) := by omega
      have kA := (Keeps.refl (fun _ => False) wr).alloc (.cells #[.string x.key, .int .u64 x.lo, .int .u64 x.hi] 99)
      have BA := hide (Blk.new wr 99 #[.string x.key, .int .u64 x.lo, .int .u64 x.hi])
      have RA := hide ((hrb.kept kA (fun _ _ h => h)).more kA.size)
      have KA := hide (kr.trans kA)
      have HX := hide hx
      obtain ⟨L1, hL1⟩ : ∃ L1, L1 = L0 ++ (l.take i).flatMap encEnt := ⟨_, rfl⟩
      have HTF : Hid (L0 ++ (l.take (i + 1)).flatMap encEnt = L1 ++ encEnt x) := hide (by rw [take_flat hx, ← List.append_assoc, ← hL1])
      rw [← hL1] at hs2 hnb RA
      have HS1 := hide hs1
      clear hs1 hrb kr kA hx HS hL1
      by_cases hk : 255 < x.key.size
      · have e1 : (255 : Int) < (x.key.size : Int) := by omega
        go_wp2_with fail
        trace "LONG"
        refine ⟨⟨x, List.mem_of_getElem? HX.out, hk⟩, KA.out, ⟨_, _, _, _, _, _, _, _, _, _, _, _, _, _, _, _, _, _, _, _, _, _, _, _, _, _, _, rfl⟩⟩
      have hks : x.key.size ≤ 255 := by omega
      have e1 : ¬ ((255 : Int) < (x.key.size : Int)) := by omega
      clear hk
      go_upto_region 17 with fail
      trace "R17"
      generalize wr.alloc _ = w3 at *
      generalize wr.heap.size = gx at *
      have q0 : w3.cell? ⟨gx, 0, none⟩ = some (.string x.key) := BA.out.cell 0
      have hnb2 : nb ≤ 10000000 := by omega
      refine Code.wp_mono ?_ (sreg17 w3 L1 A nb cb gx x.key RA.out hnb2 hks q0 BA.out.lt _ _ _ _ _ _ _ _ _ _ _ _ _ _ _ _ _ _ _ _ _ _ _ _ _ _ _ _ _ _ _ _ _ _ _ _ _ _ _ _ _ _ _ _ _ _ _ _ _ _ _ _ _ _ _ _ _ _ _ _ _ _ _ _ _ _ _ _ _ _ _ _ _ _ _ _ _ _ _ _ _ _ _ _ _ _ _ _ _ _ _ _ _ _ _ _ _ _ _ _ _ _ _)
      intro e a' w4 hex
      cases e <;> (first | exact hex.elim | skip)
      obtain ⟨A4, n4, c4, ⟨o4, k4⟩, ⟨v58, v59, v60, v61, v62, v63, v64, v65, v66, rfl⟩⟩ := hex
      have hn4 : n4 ≤ 10000000 := by have := o4.len; simp at this; have := (enc_len x.key.size).2; omega
      have BA4 := hide (BA.out.kept k4 (fun h => h))
      have R4 := hide (o4.rd (by omega))
      have K4 := hide (KA.out.trans k4)
      have q1 : w4.cell? ⟨gx, 1, none⟩ = some (.int .u64 x.lo) := BA4.out.cell 1
      have q2 : w4.cell? ⟨gx, 2, none⟩ = some (.int .u64 x.hi) := BA4.out.cell 2
      clear o4 k4 BA KA RA q0
      dsimp only
      go_upto_region 18 with fail
      trace "R18"
      refine Code.wp_mono ?_ (sreg18 w4 (L1 ++ enc x.key.size ++ x.key.data.toList) A4 n4 c4 gx x.lo x.hi R4.out hn4 (HU.out x (List.mem_of_getElem? HX.out)).1 (HU.out x (List.mem_of_getElem? HX.out)).2 q1 q2 _ _ _ _ _ _ _ _ _ _ _ _ _ _ _ _ _ _ _ _ _ _ _ _ _ _ _ _ _ _ _ _ _ _ _ _ _ _ _ _ _ _ _ _ _ _ _ _ _ _ _ _ _ _ _ _ _ _ _ _ _ _ _ _ _ _ _ _ _ _ _ _ _ _ _ _ _ _ _ _ _ _ _ _ _ _ _ _ _ _ _ _ _ _ _ _ _ _ _ _ _ _ _)
      intro e a' w5 hex
      cases e <;> (first | exact hex.elim | skip)
      obtain ⟨A5, n5, c5, ⟨hn5, r5, k5⟩, ⟨y67, y68, y69, y70, y71, y72, y73, rfl⟩⟩ := hex
      have HN : Hid ((∀ x ∈ l.take (i + 1), x.key.size ≤ 255) ∧ (L0 ++ (l.take (i + 1)).flatMap encEnt).length ≤ 1000 + 290 * (i + 1) ∧ BSt w0 (L0 ++ (l.take (i + 1)).flatMap encEnt) (.slice A5 n5 c5) w5) := hide (by
        have he : L1 ++ enc x.key.size ++ x.key.data.toList ++ enc x.lo.toNat ++ enc x.hi.toNat = L0 ++ (l.take (i + 1)).flatMap encEnt := by rw [HTF.out]; simp [encEnt, List.append_assoc]
        rw [← he]
        refine ⟨fun y hy => ?_, ?_, A5, n5, c5, rfl, hn5, r5, K4.out.trans k5⟩
        · rw [List.take_add_one, HX.out] at hy
          rcases List.mem_append.1 hy with h | h
          · exact HS1.out y h
          · obtain rfl : y = x := by simpa using h
            exact hks
        · have a1 := (enc_len x.key.size).2
          have a2 := (enc_len x.lo.toNat).2
          have a3 := (enc_len x.hi.toNat).2
          have a4 : x.key.data.toList.length = x.key.size := by simp
          simp only [List.length_append]
          omega)
      clear hn5 r5 k5 K4 R4 BA4 q1 q2 HS1 HTF
      dsimp only
      go_wp2_with fail
      trace "ROUND"
      go_roundw
      case rel => exact ⟨i + 1, HLT.out, by go_num, HN⟩
      case measure => have := HLT.out; simp [intOf]; omega
    · obtain rfl : i = n := by omega
      have hT : l.take i = l := List.take_of_length_le (by rw [HLN.out]; exact Nat.le_refl _)
      rw [hT] at HS
      obtain ⟨hs1, hs2, hs3⟩ := HS.out
      go_wp2_with fail
      trace "END"
      first | exact ⟨rfl, hs1, hs2, _, hs3, _, _, _, _, _, _, _, _, _, _, _, _, _, _, _, _, _, _, _, _, _, _, _, _, _, _, _, _, rfl⟩ | exact ⟨rfl, hs1, hs2, hs3, _, _, _, _, _, _, _, _, _, _, _, _, _, _, _, _, _, _, _, _, _, _, _, _, _, _, _, _, rfl⟩ | (trace_state; fail)
noncomputable def rlp1 : Code := ((Try.f27.body.bind fun c => (loops c)[1]?).getD .skip)
set_option maxRecDepth 1000000 in
set_option maxHeartbeats 4000000 in
theorem rloopE (w0 : World) (B : Nat) (AE : Option Addr) (n cE : Nat) (l : List Ln) (hl : Rd w0 B AE 3 n (lnCs l)) (hB : B ≤ w0.heap.size) (hU : ∀ x ∈ l, U x.lo ∧ U x.hi) (hn : n ≤ 96) (L0 : List UInt8) (v0 : Value) (h0 : BSt w0 L0 v0 w0) (hL : L0.length ≤ 1000) (s0 s1 s2 s3 s4 s5 s7 s8 s9 s10 s11 s12 s13 s14 s15 s16 s17 s18 s19 s20 s21 s22 s23 s24 s25 s26 s27 s28 s29 s30 s31 s32 s33 s34 s35 s36 s37 s38 s39 s40 s41 s42 s43 s44 s45 s46 s47 s51 s52 s53 s54 s55 s56 s57 s58 s59 s60 s61 s62 s63 s64 s65 s66 s67 s68 s69 s70 s71 s72 s73 s74 s75 s76 s77 s78 s79 s80 s81 s82 s83 s84 s85 s86 s87 s88 s89 s90 s91 s92 s93 s94 s95 s96 s97 s98 s99 s100 s101 s102 s103 s104 : Value) :
    Code.wp Try.prog (Code.loop rlp1) (LoopPostR 2 (fun a' w' => (∀ x ∈ l, x.key.size ≤ 255) ∧ (L0 ++ l.flatMap encEnt).length ≤ 1000 + 290 * n ∧ (∃ v, BSt w0 (L0 ++ l.flatMap encEnt) v w' ∧ (∃ u2 u3 u8 u50 u51 u52 u53 u54 u55 u56 u57 u58 u59 u60 u61 u62 u63 u64 u65 u66 u67 u68 u69 u70 u71 u72 u73 u74 : Value, a' = ⟨#[s0, s1, u2, u3, s4, s5, v, s7, u8, s9, s10, s11, s12, s13, s14, s15, s16, s17, s18, s19, s20, s21, s22, s23, s24, s25, s26, s27, s28, s29, s30, s31, s32, s33, s34, s35, s36, s37, s38, s39, s40, s41, s42, s43, s44, s45, s46, s47, .slice AE n cE, .int .i64 (n : Int), u50, u51, u52, u53, u54, u55, u56, u57, u58, u59, u60, u61, u62, u63, u64, u65, u66, u67, u68, u69, u70, u71, u72, u73, u74, s75, s76, s77, s78, s79, s80, s81, s82, s83, s84, s85, s86, s87, s88, s89, s90, s91, s92, s93, s94, s95, s96, s97, s98, s99, s100, s101, s102, s103, s104], []⟩))) (fun a' w' => (∃ x ∈ l, 255 < x.key.size) ∧ Keeps (fun _ => False) w0 w' ∧ (∃ u6 u8 u50 u51 u52 u53 u54 u55 u56 u57 u58 u59 u60 u61 u62 u63 u64 u65 u66 u67 u68 u69 u70 u71 u72 u73 u74 : Value, a' = ⟨#[s0, s1, .slice none 0 0, .int .i64 4, s4, s5, u6, s7, u8, s9, s10, s11, s12, s13, s14, s15, s16, s17, s18, s19, s20, s21, s22, s23, s24, s25, s26, s27, s28, s29, s30, s31, s32, s33, s34, s35, s36, s37, s38, s39, s40, s41, s42, s43, s44, s45, s46, s47, .slice AE n cE, .int .i64 (n : Int), u50, u51, u52, u53, u54, u55, u56, u57, u58, u59, u60, u61, u62, u63, u64, u65, u66, u67, u68, u69, u70, u71, u72, u73, u74, s75, s76, s77, s78, s79, s80, s81, s82, s83, s84, s85, s86, s87, s88, s89, s90, s91, s92, s93, s94, s95, s96, s97, s98, s99, s100, s101, s102, s103, s104], []⟩))) ⟨#[s0, s1, s2, s3, s4, s5, v0, s7, s8, s9, s10, s11, s12, s13, s14, s15, s16, s17, s18, s19, s20, s21, s22, s23, s24, s25, s26, s27, s28, s29, s30, s31, s32, s33, s34, s35, s36, s37, s38, s39, s40, s41, s42, s43, s44, s45, s46, s47, .slice AE n cE, .int .i64 (n : Int), .int .i64 0, s51, s52, s53, s54, s55, s56, s57, s58, s59, s60, s61, s62, s63, s64, s65, s66, s67, s68, s69, s70, s71, s72, s73, s74, s75, s76, s77, s78, s79, s80, s81, s82, s83, s84, s85, s86, s87, s88, s89, s90, s91, s92, s93, s94, s95, s96, s97, s98, s99, s100, s101, s102, s103, s104], []⟩ w0 := by
  have HL := hide hl
  have hln := lnRd_len hl
  have HU := hide hU
  have HLN := hide hln
  have H0 := hide h0
  clear hl hU h0 hln
  conv => arg 2; arg 1; whnf
  dsimp only
  go_loopw [6, 50] (fun bv iv wr => ∃ i : Nat, i ≤ n ∧ iv = .int .i64 i ∧ Hid ((∀ x ∈ l.take i, x.key.size ≤ 255) ∧ (L0 ++ (l.take i).flatMap encEnt).length ≤ 1000 + 290 * i ∧ BSt w0 (L0 ++ (l.take i).flatMap encEnt) bv wr)) (fun _ iv _ => n - (intOf iv).toNat)
  case atStart => exact ⟨0, by omega, rfl, hide ⟨fun x hx => by simp at hx, by simpa using hL, by simpa using H0.out⟩⟩
  case round =>
    obtain ⟨i, hi, rfl, HS⟩ := hrel
    by_cases hlt : i < n
    · have HLT : Hid (i + 1 ≤ n) := hlt
      obtain ⟨x, hx⟩ : ∃ x, l[i]? = some x := ⟨l[i]'(by rw [HLN.out]; exact hlt), by simp⟩
      obtain ⟨hs1, hs2, A, nb, cb, rfl, hnb, hrb, kr⟩ := HS.out
      obtain ⟨b, off, rfl, hbB, c0, c1, c2⟩ := lnRd_at (HL.out.kept kr (fun _ _ h => h)) hx (by omega)
      have hbr : b < wr.heap.size := by have := kr.size; omega
      have hiI : (i : Int) < (n : Int) := by omega
      have hi0 : (0 : Int) ≤ (i : Int) := by omega
      have kA := (Keeps.refl (fun _ => False) wr).alloc (.cells #[.string x.key, .int .u64 x.lo, .int .u64 x.hi] 99)
      have BA := hide (Blk.new wr 99 #[.string x.key, .int .u64 x.lo, .int .u64 x.hi])
      have RA := hide ((hrb.kept kA (fun _ _ h => h)).more kA.size)
      have KA := hide (kr.trans kA)
      have HX := hide hx
      obtain ⟨L1, hL1⟩ : ∃ L1, L1 = L0 ++ (l.take i).flatMap encEnt := ⟨_, rfl⟩
      have HTF : Hid (L0 ++ (l.take (i + 1)).flatMap encEnt = L1 ++ encEnt x) := hide (by rw [take_flat hx, ← List.append_assoc, ← hL1])
      rw [← hL1] at hs2 hnb RA
      have HS1 := hide hs1
      clear hs1 hrb kr kA hx HS hL1
      by_cases hk : 255 < x.key.size
      · have e1 : (255 : Int) < (x.key.size : Int) := by omega
        go_wp2_with fail
        trace "LONG"
        refine ⟨⟨x, List.mem_of_getElem? HX.out, hk⟩, KA.out, ⟨_, _, _, _, _, _, _, _, _, _, _, _, _, _, _, _, _, _, _, _, _, _, _, _, _, _, _, rfl⟩⟩
      have hks : x.key.size ≤ 255 := by omega
      have e1 : ¬ ((255 : Int) < (x.key.size : Int)) := by omega
      clear hk
      go_upto_region 17 with fail
      trace "R17"
      generalize wr.alloc _ = w3 at *
      generalize wr.heap.size = gx at *
      have q0 : w3.cell? ⟨gx, 0, none⟩ = some (.string x.key) := BA.out.cell 0
      have hnb2 : nb ≤ 10000000 := by omega
      refine Code.wp_mono ?_ (rreg17 w3 L1 A nb cb gx x.key RA.out hnb2 hks q0 BA.out.lt _ _ _ _ _ _ _ _ _ _ _ _ _ _ _ _ _ _ _ _ _ _ _ _ _ _ _ _ _ _ _ _ _ _ _ _ _ _ _ _ _ _ _ _ _ _ _ _ _ _ _ _ _ _ _ _ _ _ _ _ _ _ _ _ _ _ _ _ _ _ _ _ _ _ _ _ _ _ _ _ _ _ _ _ _ _ _ _ _ _ _ _ _ _ _ _ _ _ _ _ _ _ _)
      intro e a' w4 hex
      cases e <;> (first | exact hex.elim | skip)
      obtain ⟨A4, n4, c4, ⟨o4, k4⟩, ⟨v58, v59, v60, v61, v62, v63, v64, v65, v66, rfl⟩⟩ := hex
      have hn4 : n4 ≤ 10000000 := by have := o4.len; simp at this; have := (enc_len x.key.size).2; omega
      have BA4 := hide (BA.out.kept k4 (fun h => h))
      have R4 := hide (o4.rd (by omega))
      have K4 := hide (KA.out.trans k4)
      have q1 : w4.cell? ⟨gx, 1, none⟩ = some (.int .u64 x.lo) := BA4.out.cell 1
      have q2 : w4.cell? ⟨gx, 2, none⟩ = some (.int .u64 x.hi) := BA4.out.cell 2
      clear o4 k4 BA KA RA q0
      dsimp only
      go_upto_region 18 with fail
      trace "R18"
      refine Code.wp_mono ?_ (rreg18 w4 (L1 ++ enc x.key.size ++ x.key.data.toList) A4 n4 c4 gx x.lo x.hi R4.out hn4 (HU.out x (List.mem_of_getElem? HX.out)).1 (HU.out x (List.mem_of_getElem? HX.out)).2 q1 q2 _ _ _ _ _ _ _ _ _ _ _ _ _ _ _ _ _ _ _ _ _ _ _ _ _ _ _ _ _ _ _ _ _ _ _ _ _ _ _ _ _ _ _ _ _ _ _ _ _ _ _ _ _ _ _ _ _ _ _ _ _ _ _ _ _ _ _ _ _ _ _ _ _ _ _ _ _ _ _ _ _ _ _ _ _ _ _ _ _ _ _ _ _ _ _ _ _ _ _ _ _ _ _)
      intro e a' w5 hex
      cases e <;> (first | exact hex.elim | skip)
      obtain ⟨A5, n5, c5, ⟨hn5, r5, k5⟩, ⟨y67, y68, y69, y70, y71, y72, y73, rfl⟩⟩ := hex
      have HN : Hid ((∀ x ∈ l.take (i + 1), x.key.size ≤ 255) ∧ (L0 ++ (l.take (i + 1)).flatMap encEnt).length ≤ 1000 + 290 * (i + 1) ∧ BSt w0 (L0 ++ (l.take (i + 1)).flatMap encEnt) (.slice A5 n5 c5) w5) := hide (by
        have he : L1 ++ enc x.key.size ++ x.key.data.toList ++ enc x.lo.toNat ++ enc x.hi.toNat = L0 ++ (l.take (i + 1)).flatMap encEnt := by rw [HTF.out]; simp [encEnt, List.append_assoc]
        rw [← he]
        refine ⟨fun y hy => ?_, ?_, A5, n5, c5, rfl, hn5, r5, K4.out.trans k5⟩
        · rw [List.take_add_one, HX.out] at hy
          rcases List.mem_append.1 hy with h | h
          · exact HS1.out y h
          · obtain rfl : y = x := by simpa using h
            exact hks
        · have a1 := (enc_len x.key.size).2
          have a2 := (enc_len x.lo.toNat).2
          have a3 := (enc_len x.hi.toNat).2
          have a4 : x.key.data.toList.length = x.key.size := by simp
          simp only [List.length_append]
          omega)
      clear hn5 r5 k5 K4 R4 BA4 q1 q2 HS1 HTF
      dsimp only
      go_wp2_with fail
      trace "ROUND"
      go_roundw
      case rel => exact ⟨i + 1, HLT.out, by go_num, HN⟩
      case measure => have := HLT.out; simp [intOf]; omega
    · obtain rfl : i = n := by omega
      have hT : l.take i = l := List.take_of_length_le (by rw [HLN.out]; exact Nat.le_refl _)
      rw [hT] at HS
      obtain ⟨hs1, hs2, hs3⟩ := HS.out
      go_wp2_with fail
      trace "END"
      first | exact ⟨rfl, hs1, hs2, _, hs3, _, _, _, _, _, _, _, _, _, _, _, _, _, _, _, _, _, _, _, _, _, _, _, _, _, _, _, _, rfl⟩ | exact ⟨rfl, hs1, hs2, hs3, _, _, _, _, _, _, _, _, _, _, _, _, _, _, _, _, _, _, _, _, _, _, _, _, _, _, _, _, rfl⟩ | (trace_state; fail)
end enc21
end Go.Proofs.Ytaiopdipldaimaa
