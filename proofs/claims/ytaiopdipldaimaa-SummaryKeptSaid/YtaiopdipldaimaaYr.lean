/-
  Encode: the loops over rows, of the program and of the reference. No conditions beyond those of the statement.
-/
import Derived.Test.YtaiopdipldaimaaYq
set_option linter.unusedVariables false
set_option linter.unusedSimpArgs false
namespace Go.Proofs.Ytaiopdipldaimaa
open Go.RowKit Vp
namespace enc21
noncomputable def slp2 : Code := ((Try.f26.body.bind fun c => (loops c)[2]?).getD .skip)
noncomputable def slp3 : Code := ((Try.f26.body.bind fun c => (loops c)[3]?).getD .skip)
set_option maxRecDepth 1000000 in
set_option maxHeartbeats 4000000 in
theorem sloopN (w0 : World) (B : Nat) (AZ : Option Addr) (n cZ : Nat) (zs : List Int) (hl : Rd w0 B AZ 1 n (zs.map (.int .u64))) (hU : ∀ z ∈ zs, U z) (hn : n ≤ 256) (L0 : List UInt8) (v0 : Value) (h0 : BSt w0 L0 v0 w0) (hL : L0.length ≤ 1000000) (s0 s1 s2 s3 s4 s5 s7 s8 s9 s10 s11 s12 s13 s14 s15 s16 s17 s18 s19 s20 s21 s22 s23 s24 s25 s26 s27 s28 s29 s30 s31 s32 s33 s34 s35 s36 s37 s38 s39 s40 s41 s42 s43 s44 s45 s46 s47 s48 s49 s50 s51 s52 s53 s54 s55 s56 s57 s58 s59 s60 s61 s62 s63 s64 s65 s66 s67 s68 s69 s70 s71 s72 s73 s74 s75 s76 s77 s78 s79 s80 s81 s82 s83 s84 s85 s86 s87 s88 s89 s90 s91 s92 s96 s97 s98 s99 s100 s101 s102 s103 s104 : Value) :
    Code.wp Try.prog (Code.loop slp3) (LoopPostR 6 (fun a' w' => (L0 ++ encNum zs).length ≤ L0.length + 10 * n ∧ (∃ v, BSt w0 (L0 ++ encNum zs) v w' ∧ (∃ u12 u95 u96 u97 u98 u99 u100 u101 u102 : Value, a' = ⟨#[s0, s1, s2, s3, s4, s5, v, s7, s8, s9, s10, s11, u12, s13, s14, s15, s16, s17, s18, s19, s20, s21, s22, s23, s24, s25, s26, s27, s28, s29, s30, s31, s32, s33, s34, s35, s36, s37, s38, s39, s40, s41, s42, s43, s44, s45, s46, s47, s48, s49, s50, s51, s52, s53, s54, s55, s56, s57, s58, s59, s60, s61, s62, s63, s64, s65, s66, s67, s68, s69, s70, s71, s72, s73, s74, s75, s76, s77, s78, s79, s80, s81, s82, s83, s84, s85, s86, s87, s88, s89, s90, s91, s92, .slice AZ n cZ, .int .i64 (n : Int), u95, u96, u97, u98, u99, u100, u101, u102, s103, s104], []⟩))) (fun _ _ => False)) ⟨#[s0, s1, s2, s3, s4, s5, v0, s7, s8, s9, s10, s11, s12, s13, s14, s15, s16, s17, s18, s19, s20, s21, s22, s23, s24, s25, s26, s27, s28, s29, s30, s31, s32, s33, s34, s35, s36, s37, s38, s39, s40, s41, s42, s43, s44, s45, s46, s47, s48, s49, s50, s51, s52, s53, s54, s55, s56, s57, s58, s59, s60, s61, s62, s63, s64, s65, s66, s67, s68, s69, s70, s71, s72, s73, s74, s75, s76, s77, s78, s79, s80, s81, s82, s83, s84, s85, s86, s87, s88, s89, s90, s91, s92, .slice AZ n cZ, .int .i64 (n : Int), .int .i64 0, s96, s97, s98, s99, s100, s101, s102, s103, s104], []⟩ w0 := by
  have HL := hide hl
  have HLN := hide (show zs.length = n by simpa using hl.1)
  have HU := hide hU
  have H0 := hide h0
  clear hl hU h0
  conv => arg 2; arg 1; whnf
  dsimp only
  go_loopw [6, 95] (fun bv iv wr => ∃ i : Nat, i ≤ n ∧ iv = .int .i64 i ∧ Hid ((L0 ++ encNum (zs.take i)).length ≤ L0.length + 10 * i ∧ BSt w0 (L0 ++ encNum (zs.take i)) bv wr)) (fun _ iv _ => n - (intOf iv).toNat)
  case atStart => exact ⟨0, by omega, rfl, hide ⟨by simp [encNum], by simpa [encNum] using H0.out⟩⟩
  case round =>
    obtain ⟨i, hi, rfl, HS⟩ := hrel
    by_cases hlt : i < n
    · have HLT : Hid (i + 1 ≤ n) := hlt
      obtain ⟨x, hx⟩ : ∃ x, zs[i]? = some x := ⟨zs[i]'(by rw [HLN.out]; exact hlt), by simp⟩
      obtain ⟨hs2, A, nb, cb, rfl, hnb, hrb, kr⟩ := HS.out
      obtain ⟨b, off, rfl, hbB, hc⟩ := (HL.out.kept kr (fun _ _ h => h)).2 (by omega)
      have c0 := hc i (.int .u64 x) (by simp [hx])
      have hiI : (i : Int) < (n : Int) := by omega
      have hi0 : (0 : Int) ≤ (i : Int) := by omega
      have hUx := HU.out x (List.mem_of_getElem? hx)
      have hTF : encNum (zs.take (i + 1)) = encNum (zs.take i) ++ enc x.toNat := take_flat hx
      have HAp := hide (Varint.append_any (L0 ++ encNum (zs.take i)) A nb cb wr.heap.size wr hrb (Nat.le_refl _) (by omega) x hUx.1 hUx.2)
      have KR := hide kr
      have HS2 := hide hs2
      have HTF := hide hTF
      clear hc hx hrb kr HS hs2 hnb hTF
      go_wp2_with fail
      refine HAp.out.mono ?_
      rintro e w5 ⟨A5, n5, c5, hn5, rfl, o5, k5⟩
      have HN : Hid ((L0 ++ encNum (zs.take (i + 1))).length ≤ L0.length + 10 * (i + 1) ∧ BSt w0 (L0 ++ encNum (zs.take (i + 1))) (.slice A5 n5 c5) w5) := hide (by
        rw [HTF.out, ← List.append_assoc]
        refine ⟨?_, A5, n5, c5, rfl, hn5, o5.rd (by omega), KR.out.trans k5⟩
        have h3 := HS2.out
        have h4 := (enc_len x.toNat).2
        simp only [List.length_append] at h3 ⊢
        omega)
      clear hn5 o5 k5 KR HS2 HTF HAp
      go_wp2_with fail
      go_roundw
      case rel => exact ⟨i + 1, HLT.out, by go_num, HN⟩
      case measure => have := HLT.out; simp [intOf]; omega
    · obtain rfl : i = n := by omega
      have hT : zs.take i = zs := List.take_of_length_le (by rw [HLN.out]; exact Nat.le_refl _)
      rw [hT] at HS
      obtain ⟨hs2, hs3⟩ := HS.out
      go_wp2_with fail
      trace "ENDN"
      first | exact ⟨rfl, hs2, _, hs3, _, _, _, _, _, _, _, _, _, rfl⟩ | exact ⟨rfl, hs2, hs3, _, _, _, _, _, _, _, _, _, rfl⟩ | (trace_state; fail)
set_option maxRecDepth 1000000 in
set_option maxHeartbeats 4000000 in
theorem sloopR (w0 : World) (B : Nat) (R : Option Addr) (m cR : Nat) (F : RowsF) (hR : Rd w0 B R 1 m ((List.range m).map fun j => .slice (F j).1 (F j).2.1 (F j).2.2.1)) (hrr : RowsRd w0 B .u64 m F) (h256 : ∀ j, j < m → (F j).2.1 ≤ 256) (hm : m ≤ 4) (L0 : List UInt8) (v0 : Value) (h0 : BSt w0 L0 v0 w0) (hL : L0.length ≤ 100000) (s0 s1 s2 s3 s4 s5 s7 s8 s9 s10 s11 s12 s13 s14 s15 s16 s17 s18 s19 s20 s21 s22 s23 s24 s25 s26 s27 s28 s29 s30 s31 s32 s33 s34 s35 s36 s37 s38 s39 s40 s41 s42 s43 s44 s45 s46 s47 s48 s49 s50 s51 s52 s53 s54 s55 s56 s57 s58 s59 s60 s61 s62 s63 s64 s65 s66 s67 s68 s69 s70 s71 s72 s73 s74 s75 s76 s77 s78 s79 s80 s81 s85 s86 s87 s88 s89 s90 s91 s92 s93 s94 s95 s96 s97 s98 s99 s100 s101 s102 s103 s104 : Value) :
    Code.wp Try.prog (Code.loop slp2) (LoopPostR 4 (fun a' w' => (L0 ++ (Cmp.rowsL F m).flatMap encRow).length ≤ L0.length + 2600 * m ∧ (∃ v, BSt w0 (L0 ++ (Cmp.rowsL F m).flatMap encRow) v w' ∧ (∃ u10 u12 u84 u85 u86 u87 u88 u89 u90 u91 u92 u93 u94 u95 u96 u97 u98 u99 u100 u101 u102 u103 : Value, a' = ⟨#[s0, s1, s2, s3, s4, s5, v, s7, s8, s9, u10, s11, u12, s13, s14, s15, s16, s17, s18, s19, s20, s21, s22, s23, s24, s25, s26, s27, s28, s29, s30, s31, s32, s33, s34, s35, s36, s37, s38, s39, s40, s41, s42, s43, s44, s45, s46, s47, s48, s49, s50, s51, s52, s53, s54, s55, s56, s57, s58, s59, s60, s61, s62, s63, s64, s65, s66, s67, s68, s69, s70, s71, s72, s73, s74, s75, s76, s77, s78, s79, s80, s81, .slice R m cR, .int .i64 (m : Int), u84, u85, u86, u87, u88, u89, u90, u91, u92, u93, u94, u95, u96, u97, u98, u99, u100, u101, u102, u103, s104], []⟩))) (fun _ _ => False)) ⟨#[s0, s1, s2, s3, s4, s5, v0, s7, s8, s9, s10, s11, s12, s13, s14, s15, s16, s17, s18, s19, s20, s21, s22, s23, s24, s25, s26, s27, s28, s29, s30, s31, s32, s33, s34, s35, s36, s37, s38, s39, s40, s41, s42, s43, s44, s45, s46, s47, s48, s49, s50, s51, s52, s53, s54, s55, s56, s57, s58, s59, s60, s61, s62, s63, s64, s65, s66, s67, s68, s69, s70, s71, s72, s73, s74, s75, s76, s77, s78, s79, s80, s81, .slice R m cR, .int .i64 (m : Int), .int .i64 0, s85, s86, s87, s88, s89, s90, s91, s92, s93, s94, s95, s96, s97, s98, s99, s100, s101, s102, s103, s104], []⟩ w0 := by
  have HL := hide hR
  have HRR := hide hrr
  have HLN := hide (Cmp.rowsL_len F m)
  have H256 := hide h256
  have H0 := hide h0
  clear hR hrr h256 h0
  conv => arg 2; arg 1; whnf
  dsimp only
  go_loopw [6, 84] (fun bv iv wr => ∃ i : Nat, i ≤ m ∧ iv = .int .i64 i ∧ Hid ((L0 ++ ((Cmp.rowsL F m).take i).flatMap encRow).length ≤ L0.length + 2600 * i ∧ BSt w0 (L0 ++ ((Cmp.rowsL F m).take i).flatMap encRow) bv wr)) (fun _ iv _ => m - (intOf iv).toNat)
  case atStart => exact ⟨0, by omega, rfl, hide ⟨by simp, by simpa using H0.out⟩⟩
  case round =>
    obtain ⟨i, hi, rfl, HS⟩ := hrel
    by_cases hlt : i < m
    · have HLT : Hid (i + 1 ≤ m) := hlt
      obtain ⟨hs2, A, nb, cb, rfl, hnb, hrb, kr⟩ := HS.out
      obtain ⟨b, off, rfl, hbB, hc⟩ := (HL.out.kept kr (fun _ _ h => h)).2 (by omega)
      have c0 := hc i (.slice (F i).1 (F i).2.1 (F i).2.2.1) (by simp [hlt])
      have hiI : (i : Int) < (m : Int) := by omega
      have hi0 : (0 : Int) ≤ (i : Int) := by omega
      have hri := HRR.out i hlt
      have hlen : (F i).2.2.2.length = (F i).2.1 := by simpa using hri.1.1
      have h256i := H256.out i hlt
      have hTF : ((Cmp.rowsL F m).take (i + 1)).flatMap encRow = ((Cmp.rowsL F m).take i).flatMap encRow ++ encRow (F i).2.2.2 := take_flat (rowsL_get hlt)
      have RZ := hide (hri.1.kept kr (fun _ _ h => h))
      have HUz : Hid (∀ z ∈ (F i).2.2.2, U z) := hide (fun z hz => wf_u64 (hri.2.1 z hz))
      obtain ⟨L1, hL1⟩ : ∃ L1, L1 = L0 ++ ((Cmp.rowsL F m).take i).flatMap encRow := ⟨_, rfl⟩
      have HTF : Hid (L0 ++ ((Cmp.rowsL F m).take (i + 1)).flatMap encRow = L1 ++ enc (F i).2.2.2.length ++ encNum (F i).2.2.2) := hide (by rw [hTF, ← List.append_assoc, ← hL1, encRow, List.append_assoc])
      rw [← hL1] at hs2 hnb hrb
      obtain ⟨zs, hzs⟩ : ∃ zs, zs = (F i).2.2.2 := ⟨_, rfl⟩
      obtain ⟨nz, hnz⟩ : ∃ nz, nz = (F i).2.1 := ⟨_, rfl⟩
      rw [← hzs] at RZ HUz HTF hlen
      rw [← hnz] at RZ hlen h256i c0
      have ew : IntKind.u64.wrap (nz : Int) = nz := by rw [IntKind.wrap_u64]; omega
      have HAp := hide (Varint.append_any L1 A nb cb wr.heap.size wr hrb (Nat.le_refl _) (by omega) (nz : Int) (by omega) (by omega))
      have KR := hide kr
      have HS2 := hide hs2
      have hlL1 : L1.length ≤ 200000 := by rw [hnb] at *; omega
      clear hc hrb kr HS hs2 hnb hTF hri hL1 hzs hnz
      go_wp2_with fail
      trace "APP"
      refine HAp.out.mono ?_
      rintro e w5 ⟨A5, n5, c5, hn5, rfl, o5, k5⟩
      rw [Int.toNat_natCast] at o5 hn5
      have B5 := hide (show BSt w5 (L1 ++ enc nz) (.slice A5 n5 c5) w5 from ⟨A5, n5, c5, rfl, hn5, o5.rd (by omega), Keeps.refl _ _⟩)
      have K5 := hide (KR.out.trans k5)
      have RZ5 := hide (RZ.out.kept k5 (fun _ _ h => h))
      have hl5 : (L1 ++ enc nz).length ≤ L1.length + 10 := by have := (enc_len nz).2; rw [List.length_append]; omega
      clear hn5 o5 k5 KR RZ HAp
      go_upto_block 6 with fail
      go_wp2_with fail
      trace "INNER"
      refine Code.wp_mono ?_ (sloopN w5 B (F i).1 nz (F i).2.2.1 zs RZ5.out HUz.out h256i (L1 ++ enc nz) _ B5.out (by omega) _ _ _ _ _ _ _ _ _ _ _ _ _ _ _ _ _ _ _ _ _ _ _ _ _ _ _ _ _ _ _ _ _ _ _ _ _ _ _ _ _ _ _ _ _ _ _ _ _ _ _ _ _ _ _ _ _ _ _ _ _ _ _ _ _ _ _ _ _ _ _ _ _ _ _ _ _ _ _ _ _ _ _ _ _ _ _ _ _ _ _ _ _ _ _ _ _ _ _ _ _)
      intro e a' w6 hex
      cases e <;> (first | exact hex.elim | skip)
      obtain ⟨rfl, hle, v6, ⟨A6, n6, c6, rfl, hn6, r6, k6⟩, ⟨x12, x95, x96, x97, x98, x99, x100, x101, x102, rfl⟩⟩ := hex
      have HN : Hid ((L0 ++ ((Cmp.rowsL F m).take (i + 1)).flatMap encRow).length ≤ L0.length + 2600 * (i + 1) ∧ BSt w0 (L0 ++ ((Cmp.rowsL F m).take (i + 1)).flatMap encRow) (.slice A6 n6 c6) w6) := hide (by
        rw [HTF.out, hlen]
        refine ⟨?_, A6, n6, c6, rfl, hn6, r6, K5.out.trans k6⟩
        have := HS2.out
        omega)
      clear hle hn6 r6 k6 K5 RZ5 B5 HTF HS2
      dsimp only
      go_wp2_with fail
      trace "ROUND"
      go_roundw
      case rel => exact ⟨i + 1, HLT.out, by go_num, HN⟩
      case measure => have := HLT.out; simp [intOf]; omega
    · obtain rfl : i = m := by omega
      have hT : (Cmp.rowsL F i).take i = Cmp.rowsL F i := List.take_of_length_le (by rw [HLN.out]; exact Nat.le_refl _)
      rw [hT] at HS
      obtain ⟨hs2, hs3⟩ := HS.out
      go_wp2_with fail
      trace "ENDR"
      first | exact ⟨rfl, hs2, _, hs3, _, _, _, _, _, _, _, _, _, _, _, _, _, _, _, _, _, _, _, _, _, _, rfl⟩ | exact ⟨rfl, hs2, hs3, _, _, _, _, _, _, _, _, _, _, _, _, _, _, _, _, _, _, _, _, _, _, rfl⟩ | (trace_state; fail)
noncomputable def rlp2 : Code := ((Try.f27.body.bind fun c => (loops c)[2]?).getD .skip)
noncomputable def rlp3 : Code := ((Try.f27.body.bind fun c => (loops c)[3]?).getD .skip)
set_option maxRecDepth 1000000 in
set_option maxHeartbeats 4000000 in
theorem rloopN (w0 : World) (B : Nat) (AZ : Option Addr) (n cZ : Nat) (zs : List Int) (hl : Rd w0 B AZ 1 n (zs.map (.int .u64))) (hU : ∀ z ∈ zs, U z) (hn : n ≤ 256) (L0 : List UInt8) (v0 : Value) (h0 : BSt w0 L0 v0 w0) (hL : L0.length ≤ 1000000) (s0 s1 s2 s3 s4 s5 s7 s8 s9 s10 s11 s12 s13 s14 s15 s16 s17 s18 s19 s20 s21 s22 s23 s24 s25 s26 s27 s28 s29 s30 s31 s32 s33 s34 s35 s36 s37 s38 s39 s40 s41 s42 s43 s44 s45 s46 s47 s48 s49 s50 s51 s52 s53 s54 s55 s56 s57 s58 s59 s60 s61 s62 s63 s64 s65 s66 s67 s68 s69 s70 s71 s72 s73 s74 s75 s76 s77 s78 s79 s80 s81 s82 s83 s84 s85 s86 s87 s88 s89 s90 s91 s92 s96 s97 s98 s99 s100 s101 s102 s103 s104 : Value) :
    Code.wp Try.prog (Code.loop rlp3) (LoopPostR 6 (fun a' w' => (L0 ++ encNum zs).length ≤ L0.length + 10 * n ∧ (∃ v, BSt w0 (L0 ++ encNum zs) v w' ∧ (∃ u12 u95 u96 u97 u98 u99 u100 u101 u102 : Value, a' = ⟨#[s0, s1, s2, s3, s4, s5, v, s7, s8, s9, s10, s11, u12, s13, s14, s15, s16, s17, s18, s19, s20, s21, s22, s23, s24, s25, s26, s27, s28, s29, s30, s31, s32, s33, s34, s35, s36, s37, s38, s39, s40, s41, s42, s43, s44, s45, s46, s47, s48, s49, s50, s51, s52, s53, s54, s55, s56, s57, s58, s59, s60, s61, s62, s63, s64, s65, s66, s67, s68, s69, s70, s71, s72, s73, s74, s75, s76, s77, s78, s79, s80, s81, s82, s83, s84, s85, s86, s87, s88, s89, s90, s91, s92, .slice AZ n cZ, .int .i64 (n : Int), u95, u96, u97, u98, u99, u100, u101, u102, s103, s104], []⟩))) (fun _ _ => False)) ⟨#[s0, s1, s2, s3, s4, s5, v0, s7, s8, s9, s10, s11, s12, s13, s14, s15, s16, s17, s18, s19, s20, s21, s22, s23, s24, s25, s26, s27, s28, s29, s30, s31, s32, s33, s34, s35, s36, s37, s38, s39, s40, s41, s42, s43, s44, s45, s46, s47, s48, s49, s50, s51, s52, s53, s54, s55, s56, s57, s58, s59, s60, s61, s62, s63, s64, s65, s66, s67, s68, s69, s70, s71, s72, s73, s74, s75, s76, s77, s78, s79, s80, s81, s82, s83, s84, s85, s86, s87, s88, s89, s90, s91, s92, .slice AZ n cZ, .int .i64 (n : Int), .int .i64 0, s96, s97, s98, s99, s100, s101, s102, s103, s104], []⟩ w0 := by
  have HL := hide hl
  have HLN := hide (show zs.length = n by simpa using hl.1)
  have HU := hide hU
  have H0 := hide h0
  clear hl hU h0
  conv => arg 2; arg 1; whnf
  dsimp only
  go_loopw [6, 95] (fun bv iv wr => ∃ i : Nat, i ≤ n ∧ iv = .int .i64 i ∧ Hid ((L0 ++ encNum (zs.take i)).length ≤ L0.length + 10 * i ∧ BSt w0 (L0 ++ encNum (zs.take i)) bv wr)) (fun _ iv _ => n - (intOf iv).toNat)
  case atStart => exact ⟨0, by omega, rfl, hide ⟨by simp [encNum], by simpa [encNum] using H0.out⟩⟩
  case round =>
    obtain ⟨i, hi, rfl, HS⟩ := hrel
    by_cases hlt : i < n
    · have HLT : Hid (i + 1 ≤ n) := hlt
      obtain ⟨x, hx⟩ : ∃ x, zs[i]? = some x := ⟨zs[i]'(by rw [HLN.out]; exact hlt), by simp⟩
      obtain ⟨hs2, A, nb, cb, rfl, hnb, hrb, kr⟩ := HS.out
      obtain ⟨b, off, rfl, hbB, hc⟩ := (HL.out.kept kr (fun _ _ h => h)).2 (by omega)
      have c0 := hc i (.int .u64 x) (by simp [hx])
      have hiI : (i : Int) < (n : Int) := by omega
      have hi0 : (0 : Int) ≤ (i : Int) := by omega
      have hUx := HU.out x (List.mem_of_getElem? hx)
      have hTF : encNum (zs.take (i + 1)) = encNum (zs.take i) ++ enc x.toNat := take_flat hx
      have HAp := hide (Varint.rappend_any (L0 ++ encNum (zs.take i)) A nb cb wr.heap.size wr hrb (Nat.le_refl _) (by omega) x hUx.1 hUx.2)
      have KR := hide kr
      have HS2 := hide hs2
      have HTF := hide hTF
      clear hc hx hrb kr HS hs2 hnb hTF
      go_wp2_with fail
      refine HAp.out.mono ?_
      rintro e w5 ⟨A5, n5, c5, hn5, rfl, o5, k5⟩
      have HN : Hid ((L0 ++ encNum (zs.take (i + 1))).length ≤ L0.length + 10 * (i + 1) ∧ BSt w0 (L0 ++ encNum (zs.take (i + 1))) (.slice A5 n5 c5) w5) := hide (by
        rw [HTF.out, ← List.append_assoc]
        refine ⟨?_, A5, n5, c5, rfl, hn5, o5.rd (by omega), KR.out.trans k5⟩
        have h3 := HS2.out
        have h4 := (enc_len x.toNat).2
        simp only [List.length_append] at h3 ⊢
        omega)
      clear hn5 o5 k5 KR HS2 HTF HAp
      go_wp2_with fail
      go_roundw
      case rel => exact ⟨i + 1, HLT.out, by go_num, HN⟩
      case measure => have := HLT.out; simp [intOf]; omega
    · obtain rfl : i = n := by omega
      have hT : zs.take i = zs := List.take_of_length_le (by rw [HLN.out]; exact Nat.le_refl _)
      rw [hT] at HS
      obtain ⟨hs2, hs3⟩ := HS.out
      go_wp2_with fail
      trace "ENDN"
      first | exact ⟨rfl, hs2, _, hs3, _, _, _, _, _, _, _, _, _, rfl⟩ | exact ⟨rfl, hs2, hs3, _, _, _, _, _, _, _, _, _, rfl⟩ | (trace_state; fail)
set_option maxRecDepth 1000000 in
set_option maxHeartbeats 4000000 in
theorem rloopR (w0 : World) (B : Nat) (R : Option Addr) (m cR : Nat) (F : RowsF) (hR : Rd w0 B R 1 m ((List.range m).map fun j => .slice (F j).1 (F j).2.1 (F j).2.2.1)) (hrr : RowsRd w0 B .u64 m F) (h256 : ∀ j, j < m → (F j).2.1 ≤ 256) (hm : m ≤ 4) (L0 : List UInt8) (v0 : Value) (h0 : BSt w0 L0 v0 w0) (hL : L0.length ≤ 100000) (s0 s1 s2 s3 s4 s5 s7 s8 s9 s10 s11 s12 s13 s14 s15 s16 s17 s18 s19 s20 s21 s22 s23 s24 s25 s26 s27 s28 s29 s30 s31 s32 s33 s34 s35 s36 s37 s38 s39 s40 s41 s42 s43 s44 s45 s46 s47 s48 s49 s50 s51 s52 s53 s54 s55 s56 s57 s58 s59 s60 s61 s62 s63 s64 s65 s66 s67 s68 s69 s70 s71 s72 s73 s74 s75 s76 s77 s78 s79 s80 s81 s85 s86 s87 s88 s89 s90 s91 s92 s93 s94 s95 s96 s97 s98 s99 s100 s101 s102 s103 s104 : Value) :
    Code.wp Try.prog (Code.loop rlp2) (LoopPostR 4 (fun a' w' => (L0 ++ (Cmp.rowsL F m).flatMap encRow).length ≤ L0.length + 2600 * m ∧ (∃ v, BSt w0 (L0 ++ (Cmp.rowsL F m).flatMap encRow) v w' ∧ (∃ u10 u12 u84 u85 u86 u87 u88 u89 u90 u91 u92 u93 u94 u95 u96 u97 u98 u99 u100 u101 u102 u103 : Value, a' = ⟨#[s0, s1, s2, s3, s4, s5, v, s7, s8, s9, u10, s11, u12, s13, s14, s15, s16, s17, s18, s19, s20, s21, s22, s23, s24, s25, s26, s27, s28, s29, s30, s31, s32, s33, s34, s35, s36, s37, s38, s39, s40, s41, s42, s43, s44, s45, s46, s47, s48, s49, s50, s51, s52, s53, s54, s55, s56, s57, s58, s59, s60, s61, s62, s63, s64, s65, s66, s67, s68, s69, s70, s71, s72, s73, s74, s75, s76, s77, s78, s79, s80, s81, .slice R m cR, .int .i64 (m : Int), u84, u85, u86, u87, u88, u89, u90, u91, u92, u93, u94, u95, u96, u97, u98, u99, u100, u101, u102, u103, s104], []⟩))) (fun _ _ => False)) ⟨#[s0, s1, s2, s3, s4, s5, v0, s7, s8, s9, s10, s11, s12, s13, s14, s15, s16, s17, s18, s19, s20, s21, s22, s23, s24, s25, s26, s27, s28, s29, s30, s31, s32, s33, s34, s35, s36, s37, s38, s39, s40, s41, s42, s43, s44, s45, s46, s47, s48, s49, s50, s51, s52, s53, s54, s55, s56, s57, s58, s59, s60, s61, s62, s63, s64, s65, s66, s67, s68, s69, s70, s71, s72, s73, s74, s75, s76, s77, s78, s79, s80, s81, .slice R m cR, .int .i64 (m : Int), .int .i64 0, s85, s86, s87, s88, s89, s90, s91, s92, s93, s94, s95, s96, s97, s98, s99, s100, s101, s102, s103, s104], []⟩ w0 := by
  have HL := hide hR
  have HRR := hide hrr
  have HLN := hide (Cmp.rowsL_len F m)
  have H256 := hide h256
  have H0 := hide h0
  clear hR hrr h256 h0
  conv => arg 2; arg 1; whnf
  dsimp only
  go_loopw [6, 84] (fun bv iv wr => ∃ i : Nat, i ≤ m ∧ iv = .int .i64 i ∧ Hid ((L0 ++ ((Cmp.rowsL F m).take i).flatMap encRow).length ≤ L0.length + 2600 * i ∧ BSt w0 (L0 ++ ((Cmp.rowsL F m).take i).flatMap encRow) bv wr)) (fun _ iv _ => m - (intOf iv).toNat)
  case atStart => exact ⟨0, by omega, rfl, hide ⟨by simp, by simpa using H0.out⟩⟩
  case round =>
    obtain ⟨i, hi, rfl, HS⟩ := hrel
    by_cases hlt : i < m
    · have HLT : Hid (i + 1 ≤ m) := hlt
      obtain ⟨hs2, A, nb, cb, rfl, hnb, hrb, kr⟩ := HS.out
      obtain ⟨b, off, rfl, hbB, hc⟩ := (HL.out.kept kr (fun _ _ h => h)).2 (by omega)
      have c0 := hc i (.slice (F i).1 (F i).2.1 (F i).2.2.1) (by simp [hlt])
      have hiI : (i : Int) < (m : Int) := by omega
      have hi0 : (0 : Int) ≤ (i : Int) := by omega
      have hri := HRR.out i hlt
      have hlen : (F i).2.2.2.length = (F i).2.1 := by simpa using hri.1.1
      have h256i := H256.out i hlt
      have hTF : ((Cmp.rowsL F m).take (i + 1)).flatMap encRow = ((Cmp.rowsL F m).take i).flatMap encRow ++ encRow (F i).2.2.2 := take_flat (rowsL_get hlt)
      have RZ := hide (hri.1.kept kr (fun _ _ h => h))
      have HUz : Hid (∀ z ∈ (F i).2.2.2, U z) := hide (fun z hz => wf_u64 (hri.2.1 z hz))
      obtain ⟨L1, hL1⟩ : ∃ L1, L1 = L0 ++ ((Cmp.rowsL F m).take i).flatMap encRow := ⟨_, rfl⟩
      have HTF : Hid (L0 ++ ((Cmp.rowsL F m).take (i + 1)).flatMap encRow = L1 ++ enc (F i).2.2.2.length ++ encNum (F i).2.2.2) := hide (by rw [hTF, ← List.append_assoc, ← hL1, encRow, List.append_assoc])
      rw [← hL1] at hs2 hnb hrb
      obtain ⟨zs, hzs⟩ : ∃ zs, zs = (F i).2.2.2 := ⟨_, rfl⟩
      obtain ⟨nz, hnz⟩ : ∃ nz, nz = (F i).2.1 := ⟨_, rfl⟩
      rw [← hzs] at RZ HUz HTF hlen
      rw [← hnz] at RZ hlen h256i c0
      have ew : IntKind.u64.wrap (nz : Int) = nz := by rw [IntKind.wrap_u64]; omega
      have HAp := hide (Varint.rappend_any L1 A nb cb wr.heap.size wr hrb (Nat.le_refl _) (by omega) (nz : Int) (by omega) (by omega))
      have KR := hide kr
      have HS2 := hide hs2
      have hlL1 : L1.length ≤ 200000 := by rw [hnb] at *; omega
      clear hc hrb kr HS hs2 hnb hTF hri hL1 hzs hnz
      go_wp2_with fail
      trace "APP"
      refine HAp.out.mono ?_
      rintro e w5 ⟨A5, n5, c5, hn5, rfl, o5, k5⟩
      rw [Int.toNat_natCast] at o5 hn5
      have B5 := hide (show BSt w5 (L1 ++ enc nz) (.slice A5 n5 c5) w5 from ⟨A5, n5, c5, rfl, hn5, o5.rd (by omega), Keeps.refl _ _⟩)
      have K5 := hide (KR.out.trans k5)
      have RZ5 := hide (RZ.out.kept k5 (fun _ _ h => h))
      have hl5 : (L1 ++ enc nz).length ≤ L1.length + 10 := by have := (enc_len nz).2; rw [List.length_append]; omega
      clear hn5 o5 k5 KR RZ HAp
      go_upto_block 6 with fail
      go_wp2_with fail
      trace "INNER"
      refine Code.wp_mono ?_ (rloopN w5 B (F i).1 nz (F i).2.2.1 zs RZ5.out HUz.out h256i (L1 ++ enc nz) _ B5.out (by omega) _ _ _ _ _ _ _ _ _ _ _ _ _ _ _ _ _ _ _ _ _ _ _ _ _ _ _ _ _ _ _ _ _ _ _ _ _ _ _ _ _ _ _ _ _ _ _ _ _ _ _ _ _ _ _ _ _ _ _ _ _ _ _ _ _ _ _ _ _ _ _ _ _ _ _ _ _ _ _ _ _ _ _ _ _ _ _ _ _ _ _ _ _ _ _ _ _ _ _ _ _)
      intro e a' w6 hex
      cases e <;> (first | exact hex.elim | skip)
      obtain ⟨rfl, hle, v6, ⟨A6, n6, c6, rfl, hn6, r6, k6⟩, ⟨x12, x95, x96, x97, x98, x99, x100, x101, x102, rfl⟩⟩ := hex
      have HN : Hid ((L0 ++ ((Cmp.rowsL F m).take (i + 1)).flatMap encRow).length ≤ L0.length + 2600 * (i + 1) ∧ BSt w0 (L0 ++ ((Cmp.rowsL F m).take (i + 1)).flatMap encRow) (.slice A6 n6 c6) w6) := hide (by
        rw [HTF.out, hlen]
        refine ⟨?_, A6, n6, c6, rfl, hn6, r6, K5.out.trans k6⟩
        have := HS2.out
        omega)
      clear hle hn6 r6 k6 K5 RZ5 B5 HTF HS2
      dsimp only
      go_wp2_with fail
      trace "ROUND"
      go_roundw
      case rel => exact ⟨i + 1, HLT.out, by go_num, HN⟩
      case measure => have := HLT.out; simp [intOf]; omega
    · obtain rfl : i = m := by omega
      have hT : (Cmp.rowsL F i).take i = Cmp.rowsL F i := List.take_of_length_le (by rw [HLN.out]; exact Nat.le_refl _)
      rw [hT] at HS
      obtain ⟨hs2, hs3⟩ := HS.out
      go_wp2_with fail
      trace "ENDR"
      first | exact ⟨rfl, hs2, _, hs3, _, _, _, _, _, _, _, _, _, _, _, _, _, _, _, _, _, _, _, _, _, _, rfl⟩ | exact ⟨rfl, hs2, hs3, _, _, _, _, _, _, _, _, _, _, _, _, _, _, _, _, _, _, _, _, _, _, rfl⟩ | (trace_state; fail)
end enc21
end Go.Proofs.Ytaiopdipldaimaa
