/-
  The reference's check of a summary: the loop over the entries. No conditions beyond those of the statement.
-/
import Derived.Test.YtaiopdipldaimaaYo
import Derived.Test.YtaiopdipldaimaaGE
set_option linter.unusedVariables false
set_option linter.unusedSimpArgs false
namespace Go.Proofs.Ytaiopdipldaimaa
open Go.RowKit Cfp enc21
theorem exact_any21 (a b m : Int) (w : World) (ha : U a) (hb : U b) (hm : U m) : Calls Try.prog 71 #[.int .u64 a, .int .u64 b, .int .u64 m] w fun e w' => e = .returned (.bool (decide (a + b ≤ m))) ∧ w' = w := by
  obtain ⟨m0, m1⟩ := hm
  obtain ⟨a0, a1⟩ := ha
  obtain ⟨b0, b1⟩ := hb
  rcases h1 : decide (a ≤ m) with _ | _
  · have h2 : ¬ (a ≤ m) := by simpa using h1
    go_enter Try.func71, Try.ntmps71
    go_wp2_with fail
    go_ret
    exact ⟨ret_bool (by simp; omega), rfl⟩
  · have h2 : a ≤ m := by simpa using h1
    have e1 : IntKind.u64.wrap (m - a) = m - a := IntWalk.u64_in _ (by omega)
    go_enter Try.func71, Try.ntmps71
    go_wp2_with fail
    go_ret
    exact ⟨ret_bool (by rw [Bool.eq_iff_iff]; simp; omega), rfl⟩
theorem entry_num {tot : Int} {x : Ln} (ht : U tot) (hl : U x.lo) (hh : U x.hi) : (x.lo = 0 ∨ Sat.addOk x.lo x.hi = false ∨ tot < Sat.add x.lo x.hi) ↔ (x.lo = 0 ∨ decide (x.lo + x.hi ≤ tot) = false) := by
  have h3 := ht.2
  by_cases h : x.lo + x.hi ≤ 18446744073709551615
  · have := Sat.add_yes h
    rw [this.1, this.2]; simp
  · have := Sat.add_no h
    rw [this.1, this.2]; simp; omega
noncomputable def rclp1 : Code := ((Try.f39.body.bind fun c => (loops c)[0]?).getD .skip)
set_option maxRecDepth 1000000 in
set_option maxHeartbeats 4000000 in
theorem rcloop (w0 : World) (B X3 : Nat) (tot un : Int) (A R : Option Addr) (n cA m cR : Nat) (l : List Ln) (F : RowsF) (h : SmIn w0 B A n l R m F) (hB : B ≤ w0.heap.size) (ht : U tot) (hb : Blk w0 X3 45 (smC tot A n cA un R m cR)) (s0 s1 s2 s4 s6 s7 s8 s9 s10 s11 s12 s13 s14 s15 s16 s17 s18 s19 s20 s21 s22 s23 s24 s25 s26 s27 s28 s32 s33 s34 s35 s36 s37 s38 s39 s40 s41 s42 s43 s44 s45 s46 s47 s48 s49 s50 s51 s52 s53 s54 s55 s56 s57 s58 s59 s60 s61 s62 s63 s64 s65 s66 s67 s68 s69 s70 s71 s72 s73 s74 s75 s76 s77 s78 s79 s80 s81 s82 s83 s84 s85 s86 s87 s88 s89 s90 s91 s92 s93 s94 s95 s96 s97 s98 s99 s100 s101 s102 s103 s104 s105 s106 s107 s108 s109 s110 s111 s112 s113 s114 s115 s116 s117 s118 s119 s120 s121 s122 s123 s124 s125 s126 : Value) :
    Code.wp Try.prog (Code.loop rclp1) (LoopPostR 0 (fun a' w' => scanE tot l l 0 = 0 ∧ Keeps (fun _ => False) w0 w' ∧ (∃ u4 u6 u7 u31 u32 u33 u34 u35 u36 u37 u38 u39 u40 u41 u42 u43 u44 u45 u46 u47 u48 u49 u50 u51 u52 u53 u54 u55 u56 u57 u58 u59 u60 u61 u62 u63 u64 u65 u66 u67 u68 u69 u70 u71 u72 u73 u74 u75 u76 u77 u78 : Value, a' = ⟨#[s0, s1, s2, .pointer (some ⟨X3, 0, none⟩), u4, .int .u64 (accE l).1, u6, u7, s8, s9, s10, s11, s12, s13, s14, s15, s16, s17, s18, s19, s20, s21, s22, s23, s24, s25, s26, s27, s28, .slice A n cA, .int .i64 (n : Int), u31, u32, u33, u34, u35, u36, u37, u38, u39, u40, u41, u42, u43, u44, u45, u46, u47, u48, u49, u50, u51, u52, u53, u54, u55, u56, u57, u58, u59, u60, u61, u62, u63, u64, u65, u66, u67, u68, u69, u70, u71, u72, u73, u74, u75, u76, u77, u78, s79, s80, s81, s82, s83, s84, s85, s86, s87, s88, s89, s90, s91, s92, s93, s94, s95, s96, s97, s98, s99, s100, s101, s102, s103, s104, s105, s106, s107, s108, s109, s110, s111, s112, s113, s114, s115, s116, s117, s118, s119, s120, s121, s122, s123, s124, s125, s126], []⟩)) (fun a' w' => (∃ ev, (ev ≠ 0 ∧ scanE tot l l 0 = ev) ∧ (∃ u5 u6 u7 u31 u32 u33 u34 u35 u36 u37 u38 u39 u40 u41 u42 u43 u44 u45 u46 u47 u48 u49 u50 u51 u52 u53 u54 u55 u56 u57 u58 u59 u60 u61 u62 u63 u64 u65 u66 u67 u68 u69 u70 u71 u72 u73 u74 u75 u76 u77 u78 : Value, a' = ⟨#[s0, s1, s2, .pointer (some ⟨X3, 0, none⟩), .int .i64 ev, u5, u6, u7, s8, s9, s10, s11, s12, s13, s14, s15, s16, s17, s18, s19, s20, s21, s22, s23, s24, s25, s26, s27, s28, .slice A n cA, .int .i64 (n : Int), u31, u32, u33, u34, u35, u36, u37, u38, u39, u40, u41, u42, u43, u44, u45, u46, u47, u48, u49, u50, u51, u52, u53, u54, u55, u56, u57, u58, u59, u60, u61, u62, u63, u64, u65, u66, u67, u68, u69, u70, u71, u72, u73, u74, u75, u76, u77, u78, s79, s80, s81, s82, s83, s84, s85, s86, s87, s88, s89, s90, s91, s92, s93, s94, s95, s96, s97, s98, s99, s100, s101, s102, s103, s104, s105, s106, s107, s108, s109, s110, s111, s112, s113, s114, s115, s116, s117, s118, s119, s120, s121, s122, s123, s124, s125, s126], []⟩)) ∧ Keeps (fun _ => False) w0 w')) ⟨#[s0, s1, s2, .pointer (some ⟨X3, 0, none⟩), s4, .int .u64 0, s6, s7, s8, s9, s10, s11, s12, s13, s14, s15, s16, s17, s18, s19, s20, s21, s22, s23, s24, s25, s26, s27, s28, .slice A n cA, .int .i64 (n : Int), .int .i64 0, s32, s33, s34, s35, s36, s37, s38, s39, s40, s41, s42, s43, s44, s45, s46, s47, s48, s49, s50, s51, s52, s53, s54, s55, s56, s57, s58, s59, s60, s61, s62, s63, s64, s65, s66, s67, s68, s69, s70, s71, s72, s73, s74, s75, s76, s77, s78, s79, s80, s81, s82, s83, s84, s85, s86, s87, s88, s89, s90, s91, s92, s93, s94, s95, s96, s97, s98, s99, s100, s101, s102, s103, s104, s105, s106, s107, s108, s109, s110, s111, s112, s113, s114, s115, s116, s117, s118, s119, s120, s121, s122, s123, s124, s125, s126], []⟩ w0 := by
  have HH := hide h
  have HB := hide hb
  have HLN := hide h.len
  have hn1 := h.n1
  clear h hb
  conv => arg 2; arg 1; whnf
  dsimp only
  go_loopw [5, 31] (fun ov iv wr => ∃ i : Nat, i ≤ n ∧ iv = .int .i64 i ∧ ov = .int .u64 (accE (l.take i)).1 ∧ Hid (scanE tot l l 0 = scanE tot l (l.drop i) i) ∧ Hid (Keeps (fun _ => False) w0 wr)) (fun _ iv _ => n - (intOf iv).toNat)
  case atStart => exact ⟨0, by omega, rfl, by simp [accE], hide rfl, hide (Keeps.refl _ _)⟩
  case round =>
    obtain ⟨i, hi, rfl, rfl, HS, KR⟩ := hrel
    by_cases hlt : i < n
    · have HLT : Hid (i + 1 ≤ n) := hlt
      obtain ⟨x, hx⟩ : ∃ x, l[i]? = some x := ⟨l[i]'(by rw [HLN.out]; exact hlt), by simp⟩
      have hE := fun (j : Nat) (y : Ln) (hy : l[j]? = some y) => lnRd_at ((HH.out.kept KR.out (fun _ _ h => h)).ents) hy (by omega)
      obtain ⟨b, off, rfl, hbB, c0, c1, c2⟩ := hE i x hx
      have hsz := KR.out.size
      have hbz : b < wr.heap.size := by omega
      have br := HB.out.kept KR.out (fun h => h)
      have a0 : wr.cell? ⟨X3, 0, none⟩ = some (.int .u64 tot) := br.cell 0
      have a1 : wr.cell? ⟨X3, 1, none⟩ = some (.slice (some ⟨b, off, none⟩) n cA) := br.cell 1
      have haz := br.lt
      have hprev : Hid (∀ y, 0 < i → l[i - 1]? = some y → wr.cell? ⟨b, off + (i - 1) * 3, none⟩ = some (.string y.key)) := hide (fun y _ hy => by
        obtain ⟨b', off', he, _, d0, _, _⟩ := hE (i - 1) y hy
        injection he with he
        injection he with e1 e2 e3
        subst e1 e2
        exact d0)
      have hnum := HH.out.num x (List.mem_of_getElem? hx)
      have hks := hnum.2.2
      have hiI : (i : Int) < (n : Int) := by omega
      have hi0 : (0 : Int) ≤ (i : Int) := by omega
      have hUo := hide (accE_U (l.take i) (fun x hx => (HH.out.num x (List.mem_of_mem_take hx)).1))
      have hAT := hide (congrArg Prod.fst (accE_take hx))
      have HSd := hide (scanE_drop (tot := tot) hx)
      have HX := hide hx
      obtain ⟨ow, how⟩ : ∃ ow, ow = (accE (l.take i)).1 := ⟨_, rfl⟩
      rw [← how] at hUo hAT
      rw [← how]
      obtain ⟨ev, hev⟩ : ∃ ev, ev = entryE tot l i x := ⟨_, rfl⟩
      have HEV := hide hev
      rw [← hev] at HSd
      have HEv' : Hid (ev ≠ 0 → ev ≠ 0 ∧ scanE tot l l 0 = ev) := hide (fun hne => ⟨hne, by rw [HS.out, HSd.out, if_neg hne]⟩)
      clear hE br hx how hev
      by_cases h1 : x.key.size = 0
      · have h3 : ev = 3 := by rw [HEV.out]; exact if_pos h1
        have HEv := hide (HEv'.out (by omega))
        have e1 := key_nil h1
        subst h3
        clear h1
        go_wp2_with fail
        refine ⟨⟨_, HEv.out, ⟨_, _, _, _, _, _, _, _, _, _, _, _, _, _, _, _, _, _, _, _, _, _, _, _, _, _, _, _, _, _, _, _, _, _, _, _, _, _, _, _, _, _, _, _, _, _, _, _, _, _, _, rfl⟩⟩, KR.out.alloc _⟩
      have e1 := key_some h1
      by_cases h2 : 255 < x.key.size
      · have h3 : ev = 4 := by rw [HEV.out]; unfold entryE; rw [if_neg h1, if_pos h2]
        have HEv := hide (HEv'.out (by omega))
        have e2' : (255 : Int) < (x.key.size : Int) := by omega
        subst h3
        clear h1 h2
        go_wp2_with fail
        refine ⟨⟨_, HEv.out, ⟨_, _, _, _, _, _, _, _, _, _, _, _, _, _, _, _, _, _, _, _, _, _, _, _, _, _, _, _, _, _, _, _, _, _, _, _, _, _, _, _, _, _, _, _, _, _, _, _, _, _, _, rfl⟩⟩, KR.out.alloc _⟩
      have e2 : ¬ ((255 : Int) < (x.key.size : Int)) := by omega
      have KA := hide (KR.out.alloc (.cells #[.string x.key, .int .u64 x.lo, .int .u64 x.hi] 99))
      have hE5 : Hid (ev = if prevLe l i x = true then 6 else if x.lo = 0 ∨ decide (x.lo + x.hi ≤ tot) = false then 1 else 0) := hide (by
        rw [HEV.out]; unfold entryE; rw [if_neg h1, if_neg h2]
        by_cases hp : prevLe l i x = true
        · rw [if_pos hp, if_pos hp]
        · rw [if_neg hp, if_neg hp]
          by_cases hq : x.lo = 0 ∨ decide (x.lo + x.hi ≤ tot) = false
          · rw [if_pos ((entry_num ht hnum.1 hnum.2.1).2 hq), if_pos hq]
          · rw [if_neg (fun e => hq ((entry_num ht hnum.1 hnum.2.1).1 e)), if_neg hq])
      have hpv : Hid (0 < i → ∃ y, l[i - 1]? = some y ∧ (Op.bytesLess x.key.toList y.key.toList || x.key.toList == y.key.toList) = prevLe l i x) := hide (fun hip => by
        obtain ⟨y, hy⟩ : ∃ y, l[i - 1]? = some y := ⟨l[i - 1]'(by rw [HLN.out]; omega), List.getElem?_eq_getElem _⟩
        refine ⟨y, hy, ?_⟩
        unfold prevLe; rw [if_neg (by omega), hy])
      have hp0 : Hid (i = 0 → prevLe l i x = false) := hide (fun e => by unfold prevLe; rw [if_pos e])
      clear h1 h2 HEV
      obtain ⟨u0, u1⟩ := hnum.1
      obtain ⟨v0, v1⟩ := hnum.2.1
      have HXa := hide (fun W => exact_any21 x.lo x.hi tot W ⟨u0, u1⟩ ⟨v0, v1⟩ ht)
      have HSu := hide (fun W => rsum_any ow x.lo hUo.out ⟨u0, u1⟩ W)
      obtain ⟨pv, hpve⟩ : ∃ pv, pv = prevLe l i x := ⟨_, rfl⟩
      rw [← hpve] at hE5 hpv hp0
      obtain ⟨xt, hxt⟩ : ∃ xt, xt = decide (x.lo + x.hi ≤ tot) := ⟨_, rfl⟩
      rw [← hxt] at hE5 HXa
      have HSn : Hid (ev = 0 → scanE tot l l 0 = scanE tot l (l.drop (i + 1)) (i + 1)) := hide (fun e0 => by rw [HS.out, HSd.out, if_pos e0])
      clear hpve hxt HS HSd
      by_cases hip : 0 < i
      · obtain ⟨y, hy, hyl⟩ := hpv.out hip
        have d0 := hprev.out y hip hy
        obtain ⟨i', hi'⟩ : ∃ i' : Nat, i' = i - 1 := ⟨_, rfl⟩
        have e4 : IntKind.i64.wrap ((i : Int) - 1) = (i' : Int) := by rw [IntWalk.i64_in _ (by omega)]; omega
        rw [← hi'] at d0
        have hi2 : (0 : Int) ≤ (i' : Int) := by omega
        have hi3 : (i' : Int) < (n : Int) := by omega
        have hip2 : decide (0 < i) = true := by simp; omega
        clear hprev hy hi' hpv hp0 hip
        go_upto_region 13 with fail
        rcases pv with _ | _
        rotate_left
        · have h3 : ev = 6 := by rw [hE5.out]; rfl
          have HEv := hide (HEv'.out (by omega))
          subst h3
          go_quiet (fail)
          go_wp2_with fail
          refine ⟨⟨_, HEv.out, ⟨_, _, _, _, _, _, _, _, _, _, _, _, _, _, _, _, _, _, _, _, _, _, _, _, _, _, _, _, _, _, _, _, _, _, _, _, _, _, _, _, _, _, _, _, _, _, _, _, _, _, _, rfl⟩⟩, by first | exact KA.out.drewN _ | exact KA.out.drew | exact KA.out⟩
        go_quiet (fail)
        go_upto_region 15 with fail
        trace "NUM"
        rcases g1 : (x.lo == 0) with _ | _
        rotate_left
        · have h3 : ev = 1 := by rw [hE5.out, if_neg (by simp), if_pos (.inl (by simpa using g1))]
          have HEv := hide (HEv'.out (by omega))
          subst h3
          go_wp2_with fail
          refine ⟨⟨_, HEv.out, ⟨_, _, _, _, _, _, _, _, _, _, _, _, _, _, _, _, _, _, _, _, _, _, _, _, _, _, _, _, _, _, _, _, _, _, _, _, _, _, _, _, _, _, _, _, _, _, _, _, _, _, _, rfl⟩⟩, by first | exact KA.out.drewN _ | exact KA.out.drew | exact KA.out⟩
        go_wp2_with fail
        refine (HXa.out _).mono ?_
        rintro e w5 ⟨rfl, rfl⟩
        rcases xt with _ | _
        · have h3 : ev = 1 := by rw [hE5.out, if_neg (by simp), if_pos (.inr rfl)]
          have HEv := hide (HEv'.out (by omega))
          subst h3
          go_wp2_with fail
          refine ⟨⟨_, HEv.out, ⟨_, _, _, _, _, _, _, _, _, _, _, _, _, _, _, _, _, _, _, _, _, _, _, _, _, _, _, _, _, _, _, _, _, _, _, _, _, _, _, _, _, _, _, _, _, _, _, _, _, _, _, rfl⟩⟩, by first | exact KA.out.drewN _ | exact KA.out.drew | exact KA.out⟩
        have h3 : ev = 0 := by rw [hE5.out, if_neg (by simp), if_neg (by simp at g1; simp [g1])]
        have HSx := hide (HSn.out h3)
        clear hE5 HEv' HSn h3
        go_wp2_with fail
        refine (HSu.out _).mono ?_
        rintro e w6 ⟨rfl, rfl⟩
        go_wp2_with fail
        go_roundw
        case rel => exact ⟨_, HLT.out, by go_num, by rw [hAT.out], HSx, hide (by first | exact KA.out.drewN _ | exact KA.out.drew | exact KA.out)⟩
        case measure => have := HLT.out; simp [intOf]; omega
      · obtain rfl : i = 0 := by omega
        have hpv0 := hp0.out rfl
        subst hpv0
        simp only [Nat.zero_mul, Nat.add_zero] at c0 c1 c2
        clear hprev hpv hp0 hip
        go_upto_region 13 with fail
        go_quiet (fail)
        go_upto_region 15 with fail
        trace "NUM0"
        rcases g1 : (x.lo == 0) with _ | _
        rotate_left
        · have h3 : ev = 1 := by rw [hE5.out, if_neg (by simp), if_pos (.inl (by simpa using g1))]
          have HEv := hide (HEv'.out (by omega))
          subst h3
          go_wp2_with fail
          refine ⟨⟨_, HEv.out, ⟨_, _, _, _, _, _, _, _, _, _, _, _, _, _, _, _, _, _, _, _, _, _, _, _, _, _, _, _, _, _, _, _, _, _, _, _, _, _, _, _, _, _, _, _, _, _, _, _, _, _, _, rfl⟩⟩, by first | exact KA.out.drewN _ | exact KA.out.drew | exact KA.out⟩
        go_wp2_with fail
        refine (HXa.out _).mono ?_
        rintro e w5 ⟨rfl, rfl⟩
        rcases xt with _ | _
        · have h3 : ev = 1 := by rw [hE5.out, if_neg (by simp), if_pos (.inr rfl)]
          have HEv := hide (HEv'.out (by omega))
          subst h3
          go_wp2_with fail
          refine ⟨⟨_, HEv.out, ⟨_, _, _, _, _, _, _, _, _, _, _, _, _, _, _, _, _, _, _, _, _, _, _, _, _, _, _, _, _, _, _, _, _, _, _, _, _, _, _, _, _, _, _, _, _, _, _, _, _, _, _, rfl⟩⟩, by first | exact KA.out.drewN _ | exact KA.out.drew | exact KA.out⟩
        have h3 : ev = 0 := by rw [hE5.out, if_neg (by simp), if_neg (by simp at g1; simp [g1])]
        have HSx := hide (HSn.out h3)
        clear hE5 HEv' HSn h3
        go_wp2_with fail
        refine (HSu.out _).mono ?_
        rintro e w6 ⟨rfl, rfl⟩
        go_wp2_with fail
        go_roundw
        case rel => exact ⟨_, HLT.out, by go_num, by rw [hAT.out], HSx, hide (by first | exact KA.out.drewN _ | exact KA.out.drew | exact KA.out)⟩
        case measure => have := HLT.out; simp [intOf]; omega
    · obtain rfl : i = n := by omega
      have hT : l.take i = l := List.take_of_length_le (by rw [HLN.out]; exact Nat.le_refl _)
      have hD : l.drop i = [] := List.drop_eq_nil_of_le (by rw [HLN.out]; exact Nat.le_refl _)
      rw [hT] at ⊢
      have HS0 : scanE tot l l 0 = 0 := by rw [HS.out, hD]; rfl
      clear hT hD HS
      go_wp2_with fail
      trace "END"
      exact ⟨rfl, HS0, KR.out, ⟨_, _, _, _, _, _, _, _, _, _, _, _, _, _, _, _, _, _, _, _, _, _, _, _, _, _, _, _, _, _, _, _, _, _, _, _, _, _, _, _, _, _, _, _, _, _, _, _, _, _, _, rfl⟩⟩
end Go.Proofs.Ytaiopdipldaimaa
