/-
  The law's spoilt: the copies of the rows. No conditions beyond those of the statement.
-/
import Derived.Test.YtaiopdipldaimaaGD
import Derived.Test.YtaiopdipldaimaaGE
import Derived.Test.YtaiopdipldaimaaGG
import Derived.Deep.CutBlock
set_option linter.unusedVariables false
set_option linter.unusedSimpArgs false
namespace Go.Proofs.Ytaiopdipldaimaa
open Go.RowKit Cfp
namespace sp21
theorem elemR : ElemOf Try.prog 43 31 1 24 := ElemOf.mk' (z := .slice none 0 0) Try.underlying43 (by kernel_rfl) rfl (by omega)
theorem elemU : ElemOf Try.prog 31 24 1 8 := ElemOf.mk' (z := .int .u64 0) Try.underlying31 (by kernel_rfl) rfl (by omega)
theorem u64_one (l : List Int) : ∀ u ∈ l.map (Value.int .u64), u.oneCell' = true := by
  intro u hu
  obtain ⟨z, _, rfl⟩ := List.mem_map.1 hu
  rfl
/-- a row: an address, a length, a capacity, the numbers -/
abbrev Rw := Option Addr × Nat × Nat × List Int
def rwV (q : Rw) : Value := .slice q.1 q.2.1 q.2.2.1
/-- rows of our own, each in a block of its own -/
structure RwS (w : World) (base : Nat) (R : Option Addr) (cR : Nat) (Q : List Rw) : Prop where
  own : Own w base 31 1 R Q.length cR (Q.map rwV)
  rows : ∀ q ∈ Q, Own w base 24 1 q.1 q.2.1 q.2.2.1 (q.2.2.2.map (.int .u64)) ∧ (∀ z ∈ q.2.2.2, U z)
  apart : Q.Pairwise fun a b => ∀ k, inB a.1 k → ¬ inB b.1 k
theorem RwS.kept {w w' : World} {base : Nat} {R : Option Addr} {cR : Nat} {Q : List Rw} {S : Nat → Prop} (h : RwS w base R cR Q) (k : Keeps S w w') (hs : ∀ b, base ≤ b → b < w.heap.size → S b → (∀ c, ¬ Blk w b 31 c) ∧ (∀ c, ¬ Blk w b 24 c)) : RwS w' base R cR Q :=
  ⟨h.own.kept k (fun b hb e => by obtain ⟨c, hc⟩ := h.own.blk hb; have h1 := h.own.inB hb; exact (hs b h1.1 h1.2 e).1 c hc),
   fun q hq => ⟨(h.rows q hq).1.kept k (fun b hb e => by obtain ⟨c, hc⟩ := (h.rows q hq).1.blk hb; have h1 := (h.rows q hq).1.inB hb; exact (hs b h1.1 h1.2 e).2 c hc), (h.rows q hq).2⟩, h.apart⟩
theorem RwS.base_le {w : World} {base b' : Nat} {R : Option Addr} {cR : Nat} {Q : List Rw} (h : RwS w base R cR Q) (hb : b' ≤ base) : RwS w b' R cR Q :=
  ⟨h.own.base_le hb, fun q hq => ⟨(h.rows q hq).1.base_le hb, (h.rows q hq).2⟩, h.apart⟩
/-- one row is changed, or laid elsewhere -/
theorem RwS.set {w w' : World} {base : Nat} {R : Option Addr} {cR : Nat} {Q : List Rw} (h : RwS w base R cR Q) {i : Nat} {q : Rw} (hi : Q[i]? = some q) (q' : Rw) (k : Keeps (inB q.1) w w') (ho : Own w' base 24 1 q'.1 q'.2.1 q'.2.2.1 (q'.2.2.2.map (.int .u64)))
    (hsub : ∀ k, inB q'.1 k → inB q.1 k ∨ w.heap.size ≤ k) (hU : ∀ z ∈ q'.2.2.2, U z) :
    Own w' base 31 1 R Q.length cR (Q.map rwV) ∧ (∀ x ∈ Q.set i q', Own w' base 24 1 x.1 x.2.1 x.2.2.1 (x.2.2.2.map (.int .u64)) ∧ (∀ z ∈ x.2.2.2, U z)) ∧ ((Q.set i q').Pairwise fun a b => ∀ k, inB a.1 k → ¬ inB b.1 k) := by
  have hq := h.rows q (List.mem_of_getElem? hi)
  have hil := (List.getElem?_eq_some_iff.1 hi).1
  have hap := List.pairwise_iff_getElem.1 h.apart
  have hqe := (List.getElem?_eq_some_iff.1 hi).2
  have hd : ∀ (j : Nat) (hj : j < Q.length), j ≠ i → ∀ k, inB (Q[j]).1 k → ¬ inB q.1 k := fun j hj hne k hk hk' => by
    rcases Nat.lt_or_gt_of_ne hne with h1 | h1
    · exact hap j i hj hil h1 k hk (by rw [hqe]; exact hk')
    · exact hap i j hil hj h1 k (by rw [hqe]; exact hk') hk
  have hlt : ∀ (j : Nat) (hj : j < Q.length) k, inB (Q[j]).1 k → k < w.heap.size := fun j hj k hk => ((h.rows _ (List.getElem_mem hj)).1.inB hk).2
  have hnew : ∀ (j : Nat) (hj : j < Q.length), j ≠ i → ∀ k, inB (Q[j]).1 k → ¬ inB q'.1 k := fun j hj hne k hk hk' => by
    rcases hsub k hk' with h1 | h1
    · exact hd j hj hne k hk h1
    · have := hlt j hj k hk; omega
  refine ⟨h.own.kept k (fun b hb e => h.own.ne hq.1 (by decide) hb e), fun x hx => ?_, ?_⟩
  · obtain ⟨j, hj, rfl⟩ := List.getElem_of_mem hx
    rw [List.length_set] at hj
    rw [List.getElem_set]
    by_cases e : i = j
    · rw [if_pos e]; exact ⟨ho, hU⟩
    · rw [if_neg e]
      have hx := h.rows _ (List.getElem_mem hj)
      exact ⟨hx.1.kept k (fun b hb hb' => hd j hj (fun h => e h.symm) b hb hb'), hx.2⟩
  · rw [List.pairwise_iff_getElem]
    intro a b ha hb hab k hk
    rw [List.length_set] at ha hb
    rw [List.getElem_set] at hk ⊢
    by_cases ea : i = a
    · subst ea
      rw [if_pos rfl] at hk
      rw [if_neg (by omega)]
      exact fun hk' => hnew b hb (by omega) k hk' hk
    · rw [if_neg ea] at hk
      by_cases eb : i = b
      · subst eb
        rw [if_pos rfl]
        exact hnew a ha (by omega) k hk
      · rw [if_neg eb]
        exact hap a b ha hb hab k hk
theorem RwS.quiet {w w' : World} {base : Nat} {R : Option Addr} {cR : Nat} {Q : List Rw} (h : RwS w base R cR Q) (k : Keeps (fun _ => False) w w') : RwS w' base R cR Q := h.kept k (fun _ _ _ h => h.elim)
noncomputable def splp : Code := ((Try.f37.body.bind fun c => (enc21.loops c)[0]?).getD .skip)
def LoopPostK (k : Nat) (W : Act → World → Prop) : Exit → Act → World → Prop
  | .exit i, a, w => i = k ∧ W a w
  | _, _, _ => False
set_option maxRecDepth 1000000 in
set_option maxHeartbeats 4000000 in
theorem loop (w0 : World) (B : Nat) (R0 : Option Addr) (m cR0 : Nat) (F : RowsF) (hR : Rd w0 B R0 1 m ((List.range m).map fun j => .slice (F j).1 (F j).2.1 (F j).2.2.1)) (hrr : RowsRd w0 B .u64 m F) (hB : B ≤ w0.heap.size) (hm : m ≤ 8) (h3 : ∀ j, j < m → (F j).2.1 ≤ 300) (s0 s1 s2 s3 s4 s5 s6 s8 s9 s10 s11 s12 s13 s14 s15 s16 s17 s21 s22 s23 s24 s25 s26 s27 s28 s29 s30 s31 s32 s33 s34 s35 s36 s37 s38 s39 s40 s41 s42 s43 s44 s45 s46 s47 s48 s49 s50 s51 s52 s53 s54 s55 s56 s57 s58 s59 s60 s61 s62 s63 s64 s65 s66 s67 s68 s69 s70 s71 s72 s73 s74 s75 s76 s77 s78 s79 s80 s81 s82 s83 s84 s85 s86 s87 s88 s89 s90 s91 s92 s93 s94 s95 s96 s97 s98 s99 s100 s101 s102 s103 s104 s105 s106 s107 s108 s109 s110 s111 s112 s113 s114 s115 s116 s117 s118 s119 s120 s121 s122 s123 s124 s125 s126 s127 s128 s129 s130 s131 s132 s133 s134 s135 s136 s137 s138 s139 s140 s141 s142 s143 s144 s145 s146 s147 s148 s149 s150 s151 s152 s153 s154 s155 s156 s157 s158 s159 s160 s161 s162 s163 : Value) :
    Code.wp Try.prog (Code.loop splp) (LoopPostK 0 fun a' w' => ∃ Q R cR, Q.length = m ∧ (RwS w' w0.heap.size R cR Q ∧ ∀ q ∈ Q, q.2.1 ≤ 400) ∧ Keeps (fun _ => False) w0 w' ∧ (∃ u9 u20 u21 u22 u23 u24 u25 u26 u27 u28 u29 u30 : Value, a' = ⟨#[s0, s1, s2, s3, s4, s5, s6, .slice R Q.length cR, s8, u9, s10, s11, s12, s13, s14, s15, s16, s17, .slice R0 m cR0, .int .i64 (m : Int), u20, u21, u22, u23, u24, u25, u26, u27, u28, u29, u30, s31, s32, s33, s34, s35, s36, s37, s38, s39, s40, s41, s42, s43, s44, s45, s46, s47, s48, s49, s50, s51, s52, s53, s54, s55, s56, s57, s58, s59, s60, s61, s62, s63, s64, s65, s66, s67, s68, s69, s70, s71, s72, s73, s74, s75, s76, s77, s78, s79, s80, s81, s82, s83, s84, s85, s86, s87, s88, s89, s90, s91, s92, s93, s94, s95, s96, s97, s98, s99, s100, s101, s102, s103, s104, s105, s106, s107, s108, s109, s110, s111, s112, s113, s114, s115, s116, s117, s118, s119, s120, s121, s122, s123, s124, s125, s126, s127, s128, s129, s130, s131, s132, s133, s134, s135, s136, s137, s138, s139, s140, s141, s142, s143, s144, s145, s146, s147, s148, s149, s150, s151, s152, s153, s154, s155, s156, s157, s158, s159, s160, s161, s162, s163], []⟩)) ⟨#[s0, s1, s2, s3, s4, s5, s6, .slice none 0 0, s8, s9, s10, s11, s12, s13, s14, s15, s16, s17, .slice R0 m cR0, .int .i64 (m : Int), .int .i64 0, s21, s22, s23, s24, s25, s26, s27, s28, s29, s30, s31, s32, s33, s34, s35, s36, s37, s38, s39, s40, s41, s42, s43, s44, s45, s46, s47, s48, s49, s50, s51, s52, s53, s54, s55, s56, s57, s58, s59, s60, s61, s62, s63, s64, s65, s66, s67, s68, s69, s70, s71, s72, s73, s74, s75, s76, s77, s78, s79, s80, s81, s82, s83, s84, s85, s86, s87, s88, s89, s90, s91, s92, s93, s94, s95, s96, s97, s98, s99, s100, s101, s102, s103, s104, s105, s106, s107, s108, s109, s110, s111, s112, s113, s114, s115, s116, s117, s118, s119, s120, s121, s122, s123, s124, s125, s126, s127, s128, s129, s130, s131, s132, s133, s134, s135, s136, s137, s138, s139, s140, s141, s142, s143, s144, s145, s146, s147, s148, s149, s150, s151, s152, s153, s154, s155, s156, s157, s158, s159, s160, s161, s162, s163], []⟩ w0 := by
  have HL := hide hR
  have HRR := hide hrr
  have H3 := hide h3
  clear hR hrr h3
  conv => arg 2; arg 1; whnf
  dsimp only
  go_loopw [7, 20] (fun rv iv wr => ∃ (Q : List Rw) (R : Option Addr) (cR : Nat), Q.length ≤ m ∧ iv = .int .i64 (Q.length : Int) ∧ rv = .slice R Q.length cR ∧ (Hid (RwS wr w0.heap.size R cR Q) ∧ Hid (∀ q ∈ Q, q.2.1 ≤ 400)) ∧ Hid (Keeps (fun _ => False) w0 wr)) (fun _ iv _ => m - (intOf iv).toNat)
  case atStart => exact ⟨[], none, 0, by simp, rfl, rfl, ⟨hide ⟨Own.nil _ _ _ _, fun q hq => (by cases hq), List.Pairwise.nil⟩, hide (fun q hq => (by cases hq))⟩, hide (Keeps.refl _ _)⟩
  case round =>
    obtain ⟨Q, R, cR, hi, rfl, rfl, ⟨HR, H4⟩, KR⟩ := hrel
    obtain ⟨i, hil⟩ : ∃ i, i = Q.length := ⟨_, rfl⟩
    have HIL := hide hil
    have hOwn := HR.out.own
    rw [← hil] at hi hOwn ⊢
    have OW := hide hOwn
    clear hil hOwn
    by_cases hlt : i < m
    · have HLT : Hid (i + 1 ≤ m) := hlt
      obtain ⟨b, off, rfl, hbB, hc⟩ := (HL.out.kept KR.out (fun _ _ h => h)).2 (by omega)
      have c0 := hc i (.slice (F i).1 (F i).2.1 (F i).2.2.1) (by simp [hlt])
      have hiI : (i : Int) < (m : Int) := by omega
      have hi0 : (0 : Int) ≤ (i : Int) := by omega
      have hri := HRR.out i hlt
      have h3i := H3.out i hlt
      have RZ := hide (hri.1.kept KR.out (fun _ _ h => h))
      have HUz : Hid (∀ z ∈ (F i).2.2.2, U z) := hide (fun z hz => wf_u64 (hri.2.1 z hz))
      have hsr := KR.out.size
      obtain ⟨zs, hzs⟩ : ∃ zs, zs = (F i).2.2.2 := ⟨_, rfl⟩
      obtain ⟨nz, hnz⟩ : ∃ nz, nz = (F i).2.1 := ⟨_, rfl⟩
      obtain ⟨cz, hcz⟩ : ∃ cz, cz = (F i).2.2.1 := ⟨_, rfl⟩
      obtain ⟨Az, hAz⟩ : ∃ Az, Az = (F i).1 := ⟨_, rfl⟩
      rw [← hzs, ← hnz, ← hAz] at RZ
      rw [← hzs] at HUz
      rw [← hnz] at h3i
      rw [← hAz, ← hnz, ← hcz] at c0
      clear hc hri hzs hnz hcz hAz
      have k1 := (Keeps.refl (fun _ => False) wr).alloc (.cells #[] 24)
      have hmx1 : 0 + nz ≤ maxLen := by simp only [maxLen]; omega
      have hmx2 : (0 + nz) * 8 ≤ 140737488355328 := by omega
      have hmx3 : i + 1 ≤ maxLen := by simp only [maxLen]; omega
      have hmx4 : (i + 1) * 24 ≤ 140737488355328 := by omega
      go_upto_region 7 with (first
        | (at_builtin; refine wpList_app _ elemU rfl (.tmp 25) (.tmp 26) rfl wr.heap.size _ rfl (Own.new0 _ _ 24 1 _ (by simp) (by omega)) _ (m := nz) _ rfl (RZ.out.kept k1 (fun _ _ h => h)) (u64_one zs) hmx1 hmx2 (by simp) ?_; intro A7 c7 w7 o7 k7 hA7; rw [Nat.zero_add, List.nil_append] at o7; have O7 := hide o7; have K7 := hide (k1.step k7 (fun k hk h => by have := (inB_some _ _ _).1 h; omega)); have HR7 := hide (HR.out.quiet K7.out); have OW7 := hide (OW.out.kept K7.out (fun _ _ h => h)); have kB := (Keeps.refl (fun _ => False) w7).alloc (.cells #[.slice A7 nz c7] 31); have BR := hide (Blk.new w7 31 #[.slice A7 nz c7]); have O8 := hide (O7.out.kept kB (fun _ _ h => h)); have HR8 := hide (HR7.out.quiet kB); have OW8 := hide (OW7.out.kept kB (fun _ _ h => h)); have K8 := hide (K7.out.trans kB); have hs78 := kB.size; clear o7 k7)
        | (at_builtin; refine wpList_app _ elemR rfl (.tmp 24) (.tmp 28) rfl w0.heap.size _ rfl OW8.out _ (m := 1) [.slice A7 nz c7] rfl (BR.out.rd (xs := [.slice A7 nz c7]) (n := 1) (sz := 1) rfl) (by simp [Value.oneCell']) hmx3 hmx4 (by have := K8.out.size; omega) ?_; intro A9 c9 w9 o9 k9 hA9; have O9 := hide o9; have K9 := hide ((KR.out.trans K8.out).step k9 (fun k hk h => by have := (OW8.out.inB h).1; omega)); have K89 := hide k9; clear o9 k9))
      trace "R7"
      have HN : Hid (RwS w9 w0.heap.size A9 c9 (Q ++ [(A7, nz, c7, zs)])) := hide (by
        refine ⟨?_, fun q hq => ?_, ?_⟩
        · have := O9.out
          rw [show Q.map rwV ++ [Value.slice A7 nz c7] = (Q ++ [(A7, nz, c7, zs)]).map rwV from by simp [rwV], HIL.out] at this
          simpa using this
        · rcases List.mem_append.1 hq with h | h
          · obtain ⟨q1, q2⟩ := HR8.out.rows q h
            exact ⟨q1.kept K89.out (fun b hb e => q1.ne OW8.out (by decide) hb e), q2⟩
          · obtain rfl : q = _ := by simpa using h
            refine ⟨(O8.out.base_le hsr).kept K89.out (fun b hb e => O8.out.ne OW8.out (by decide) hb e), HUz.out⟩
        · rw [List.pairwise_append]
          refine ⟨HR.out.apart, List.pairwise_singleton _ _, fun a ha c hc k hk hk' => ?_⟩
          obtain rfl : c = _ := by simpa using hc
          have h1 := ((HR.out.rows a ha).1.inB hk).2
          have h2 := (O7.out.inB hk').1
          omega)
      have H4n : Hid (∀ q ∈ Q ++ [(A7, nz, c7, zs)], q.2.1 ≤ 400) := hide (fun q hq => by
        rcases List.mem_append.1 hq with h | h
        · exact H4.out q h
        · obtain rfl : q = _ := by simpa using h
          show nz ≤ 400; omega)
      have HLn : Hid ((Q ++ [(A7, nz, c7, zs)]).length = i + 1) := hide (by rw [List.length_append, ← HIL.out]; rfl)
      clear O7 K7 HR7 OW7 kB BR O8 HR8 OW8 K8 O9 K89 hs78 hA7 hA9 RZ HUz HR OW k1
      go_wp2_with fail
      trace "ROUND"
      go_roundw
      case rel => exact ⟨Q ++ [(A7, nz, c7, zs)], A9, c9, by rw [HLn.out]; exact HLT.out, by rw [HLn.out]; go_num, by rw [HLn.out], ⟨HN, H4n⟩, K9⟩
      case measure => have := HLT.out; simp [intOf]; omega
    · obtain rfl : i = m := by omega
      go_wp2_with fail
      trace "END"
      first | exact ⟨rfl, Q, R, cR, HIL.out.symm, ⟨HR.out, H4.out⟩, KR.out, _, _, _, _, _, _, _, _, _, _, _, _, by rw [HIL.out]⟩ | (trace_state; fail)
end sp21
end Go.Proofs.Ytaiopdipldaimaa
