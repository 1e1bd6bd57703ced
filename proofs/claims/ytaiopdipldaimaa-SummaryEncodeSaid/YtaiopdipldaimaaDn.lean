/-
  SummaryEncode: the five byte sequences are put into a slice. No conditions beyond those of the statement.
-/
import Derived.Test.YtaiopdipldaimaaDm
set_option linter.unusedVariables false
set_option linter.unusedSimpArgs false
namespace Go.Proofs.Ytaiopdipldaimaa
open Go.RowKit Cfp Vp
namespace senc
noncomputable def rg18 : Code := ((Try.f5.body.bind (sbd.findReg 18)).getD .skip)
def Five (w1 : World) (xb xy xz : Bt) (q : UInt8) (k : Nat) (GS : Nat) (w' : World) : Prop :=
  ∃ (A' A2 : Option Addr) (c2 : Nat), Blk w' GS 46 ([xb, xy, xz, ⟨A', k, xy.c, xy.L.take k⟩, ⟨A2, xy.n + 1, c2, xy.L ++ [q]⟩].map Bt.v).toArray ∧ BtOk w' w'.heap.size ⟨A', k, xy.c, xy.L.take k⟩ ∧ BtOk w' w'.heap.size ⟨A2, xy.n + 1, c2, xy.L ++ [q]⟩ ∧ Keeps (fun _ => False) w1 w'
set_option maxRecDepth 1000000 in
set_option maxHeartbeats 4000000 in
theorem reg18 (w1 : World) (Ab A Az : Option Addr) (nb cb n c nz cz : Nat) (Lb L Lz : List UInt8) (at_ ak : Int) (q : UInt8) (kk : Nat)
    (hr : Rd w1 w1.heap.size A 1 n (L.map by8)) (hnc : n ≤ c) (hn : n ≤ 100000) (h0 : 0 < n) (e1 : bits .and .i64 at_ 1023 = ak) (a0 : 0 ≤ ak) (a1 : ak < 1024) (e2 : ak % (n : Int) = (kk : Int)) (s0 s2 s5 s6 s7 s8 s9 s10 s11 s12 s13 s14 s15 s16 s17 s18 s20 s22 s23 s24 s25 s26 s27 s28 s29 s30 s31 s32 s33 s34 s35 s36 s37 s38 s39 s40 s41 s42 s43 s44 s45 s46 s47 s48 s49 s50 s51 s52 s53 s54 s55 s56 s57 s58 s59 s60 s61 s62 s63 s64 s65 s66 s67 s68 s69 s70 s71 s72 s73 s74 s75 s76 s77 s78 s79 s80 s81 s82 s83 s84 s85 s86 s87 s88 s89 s90 s91 s92 s93 s94 s95 s96 s97 s98 s99 s100 s101 s102 s103 s104 s105 s106 s107 s108 s109 s110 s111 s112 s113 s114 s115 s116 s117 s118 s119 s120 s121 s122 s123 s124 s125 s126 s127 s128 s129 s130 s131 s132 s133 s134 s135 s136 : Value) :
    Code.wp Try.prog rg18 (sbd.NormPost fun a' w' => ∃ GS, Five w1 ⟨Ab, nb, cb, Lb⟩ ⟨A, n, c, L⟩ ⟨Az, nz, cz, Lz⟩ q kk GS w' ∧ (∃ u94 u95 u96 u97 u98 u99 u100 u101 u102 u103 u104 u105 u106 u107 u108 u109 : Value, a' = ⟨#[s0, .slice Ab nb cb, s2, .int .i64 at_, .int .u8 (q.toNat : Int), s5, s6, s7, s8, s9, s10, s11, s12, s13, s14, s15, s16, s17, s18, .slice A n c, s20, .slice Az nz cz, s22, s23, s24, s25, s26, s27, s28, s29, s30, s31, s32, s33, s34, s35, s36, s37, s38, s39, s40, s41, s42, s43, s44, s45, s46, s47, s48, s49, s50, s51, s52, s53, s54, s55, s56, s57, s58, s59, s60, s61, s62, s63, s64, s65, s66, s67, s68, s69, s70, s71, s72, s73, s74, s75, s76, s77, s78, s79, s80, s81, s82, s83, s84, s85, s86, s87, s88, s89, s90, s91, s92, s93, u94, u95, u96, u97, u98, u99, u100, u101, u102, u103, u104, u105, u106, u107, u108, u109, .slice (some ⟨GS, 0, none⟩) 5 5, .int .i64 5, .int .i64 0, s113, s114, s115, s116, s117, s118, s119, s120, s121, s122, s123, s124, s125, s126, s127, s128, s129, s130, s131, s132, s133, s134, s135, s136], []⟩)) ⟨#[s0, .slice Ab nb cb, s2, .int .i64 at_, .int .u8 (q.toNat : Int), s5, s6, s7, s8, s9, s10, s11, s12, s13, s14, s15, s16, s17, s18, .slice A n c, s20, .slice Az nz cz, s22, s23, s24, s25, s26, s27, s28, s29, s30, s31, s32, s33, s34, s35, s36, s37, s38, s39, s40, s41, s42, s43, s44, s45, s46, s47, s48, s49, s50, s51, s52, s53, s54, s55, s56, s57, s58, s59, s60, s61, s62, s63, s64, s65, s66, s67, s68, s69, s70, s71, s72, s73, s74, s75, s76, s77, s78, s79, s80, s81, s82, s83, s84, s85, s86, s87, s88, s89, s90, s91, s92, s93, s94, s95, s96, s97, s98, s99, s100, s101, s102, s103, s104, s105, s106, s107, s108, s109, s110, s111, s112, s113, s114, s115, s116, s117, s118, s119, s120, s121, s122, s123, s124, s125, s126, s127, s128, s129, s130, s131, s132, s133, s134, s135, s136], []⟩ w1 := by
  have hkn : kk < n := by have := Int.emod_lt_of_pos ak (show (0 : Int) < n by omega); omega
  obtain ⟨A', hs, hra, _⟩ := sub_hi (P := Try.prog) elem8 A n c .i64 (kk : Int) (by omega) (by omega) hnc
  rw [Int.toNat_natCast] at hs hra
  have hk := hra _ _ _ hr
  rw [Nat.mul_one, ← List.map_take] at hk
  have HRk := hide hk
  have HR := hide hr
  have hz : ¬ ((n : Int) = 0) := by omega
  have hz2 : ¬ (n = 0) := by omega
  have e3 : Int.tmod ak (n : Int) = (kk : Int) := by rw [Int.tmod_eq_emod_of_nonneg a0, e2]
  have KK := hide ((Keeps.refl (fun _ => False) w1).drew)
  clear hra hk hr
  conv => arg 2; whnf
  dsimp only
  refine wp_region_held_drew (S := fun _ => True) (by kernel_rfl) trivial (fun hHeld => ?_)
  refine wpAnyH_take (i := 0) (v := ?_) rfl (by kernel_rfl) (by kernel_rfl) (by kernel_rfl) (fun _ _ _ h => h) (Or.inl ⟨by kernel_rfl, ?_⟩) (by trivial) ?_; rotate_left; focus (intro w hSw; (try dsimp only at hSw); go_simp; try (with_reducible rfl)); (try simp only [Act.put, List.setIfInBounds_toArray, List.set_cons_zero, List.set_cons_succ])
  refine wpAnyH_take (i := 1) (v := ?_) rfl (by kernel_rfl) (by kernel_rfl) (by kernel_rfl) (fun _ _ _ h => h) (Or.inl ⟨by kernel_rfl, ?_⟩) (by trivial) ?_; rotate_left; focus (intro w hSw; (try dsimp only at hSw); go_simp; try (with_reducible rfl)); (try simp only [Act.put, List.setIfInBounds_toArray, List.set_cons_zero, List.set_cons_succ])
  refine wpAnyH_take (i := 2) (v := ?_) rfl (by kernel_rfl) (by kernel_rfl) (by kernel_rfl) (fun _ _ _ h => h) (Or.inl ⟨by kernel_rfl, ?_⟩) (by trivial) ?_; rotate_left; focus (intro w hSw; (try dsimp only at hSw); go_simp; try (with_reducible rfl)); (try simp only [Act.put, List.setIfInBounds_toArray, List.set_cons_zero, List.set_cons_succ])
  refine wpAnyH_take (i := 3) (v := ?_) rfl (by kernel_rfl) (by kernel_rfl) (by kernel_rfl) (fun _ _ _ h => h) (Or.inl ⟨by kernel_rfl, ?_⟩) (by trivial) ?_; rotate_left; focus (intro w hSw; (try dsimp only at hSw); go_simp; try (with_reducible rfl)); (try simp only [Act.put, List.setIfInBounds_toArray, List.set_cons_zero, List.set_cons_succ])
  refine wpAnyH_take (i := 4) (v := ?_) rfl (by kernel_rfl) (by kernel_rfl) (by kernel_rfl) (fun _ _ _ h => h) (Or.inl ⟨by kernel_rfl, ?_⟩) (by trivial) ?_; rotate_left; focus (intro w hSw; (try dsimp only at hSw); go_simp; try (with_reducible rfl)); (try simp only [Act.put, List.setIfInBounds_toArray, List.set_cons_zero, List.set_cons_succ])
  refine wpAnyH_take (i := 5) (v := ?_) rfl (by kernel_rfl) (by kernel_rfl) (by kernel_rfl) (fun _ _ _ h => h) (Or.inl ⟨by kernel_rfl, ?_⟩) (by trivial) ?_; rotate_left; focus (intro w hSw; (try dsimp only at hSw); go_simp; try (with_reducible rfl)); (try simp only [Act.put, List.setIfInBounds_toArray, List.set_cons_zero, List.set_cons_succ])
  refine wpAnyH_take (i := 6) (v := ?_) rfl (by kernel_rfl) (by kernel_rfl) (by kernel_rfl) (fun _ _ _ h => h) (Or.inl ⟨by kernel_rfl, ?_⟩) (by trivial) ?_; rotate_left; focus (intro w hSw; (try dsimp only at hSw); go_simp; try (with_reducible rfl)); (try simp only [Act.put, List.setIfInBounds_toArray, List.set_cons_zero, List.set_cons_succ])
  refine wpAnyH_take (i := 7) (v := ?_) rfl (by kernel_rfl) (by kernel_rfl) (by kernel_rfl) (fun _ _ _ h => h) (Or.inl ⟨by kernel_rfl, ?_⟩) (by trivial) ?_; rotate_left; focus (intro w hSw; (try dsimp only at hSw); go_simp; try (with_reducible rfl)); (try simp only [Act.put, List.setIfInBounds_toArray, List.set_cons_zero, List.set_cons_succ])
  refine wpAnyH_take (i := 8) (v := ?_) rfl (by kernel_rfl) (by kernel_rfl) (by kernel_rfl) (fun _ _ _ h => h) (Or.inl ⟨by kernel_rfl, ?_⟩) (by trivial) ?_; rotate_left; focus (intro w hSw; (try dsimp only at hSw); go_simp; try (with_reducible rfl)); (try simp only [Act.put, List.setIfInBounds_toArray, List.set_cons_zero, List.set_cons_succ])
  refine wpAnyH_take (i := 9) (v := ?_) rfl (by kernel_rfl) (by kernel_rfl) (by kernel_rfl) (fun _ _ _ h => h) (Or.inl ⟨by kernel_rfl, ?_⟩) (by trivial) ?_; rotate_left; focus (intro w hSw; (try dsimp only at hSw); go_simp; try (with_reducible rfl)); (try simp only [Act.put, List.setIfInBounds_toArray, List.set_cons_zero, List.set_cons_succ])
  refine wpAnyH_take (i := 11) (v := ?_) rfl (by kernel_rfl) (by kernel_rfl) (by kernel_rfl) (fun _ _ _ h => h) (Or.inl ⟨by kernel_rfl, ?_⟩) (by trivial) ?_; rotate_left; focus (intro w hSw; (try dsimp only at hSw); go_simp; try (with_reducible rfl)); (try simp only [Act.put, List.setIfInBounds_toArray, List.set_cons_zero, List.set_cons_succ])
  refine wpAnyH_take (i := 13) (v := ?_) rfl (by kernel_rfl) (by kernel_rfl) (by kernel_rfl) (fun _ _ _ h => h) (Or.inl ⟨by kernel_rfl, ?_⟩) (by trivial) ?_; rotate_left; focus (intro w hSw; (try dsimp only at hSw); go_simp; try (with_reducible rfl)); (try simp only [Act.put, List.setIfInBounds_toArray, List.set_cons_zero, List.set_cons_succ])
  refine wpAnyH_take (i := 18) (v := ?_) rfl (by kernel_rfl) (by kernel_rfl) (by kernel_rfl) (fun _ _ _ h => h) (Or.inl ⟨by kernel_rfl, ?_⟩) (by trivial) ?_; rotate_left; focus (intro w hSw; (try dsimp only at hSw); go_simp; try (with_reducible rfl)); (try simp only [Act.put, List.setIfInBounds_toArray, List.set_cons_zero, List.set_cons_succ])
  trace "TAKEN"
  clear hs e1 e2 e3 hz hz2
  generalize w1.drew = wd at *
  refine wpAnyH_ready (rs := [10, 14]) (by kernel_rfl) (by simp) ?_
  refine AllReadyH.cons rfl (fun K hK => ?_) (AllReadyH.cons rfl (fun K hK => ?_) AllReadyH.nil)
  · skip
    go_simp
    have kA := (Keeps.refl (fun _ => False) wd).alloc (.cells #[] 5)
    have OZ := hide (Own.new0 wd w1.heap.size 5 1 wd.heap.size rfl KK.out.size)
    have KK := hide (KK.out.trans kA)
    have hg0 := KK.out.size
    have hgX : wd.heap.size < (wd.alloc (.cells #[] 5)).heap.size := by simp
    skip
    clear kA
    refine hK.out _ _ trivial (fun hHeld => ?_)
    clear hK K
    generalize wd.alloc _ = w2 at *
    generalize wd.heap.size = g0 at *
    (try simp only [Act.put, List.setIfInBounds_toArray, List.set_cons_zero, List.set_cons_succ])
    refine wpAnyH_ready (rs := [12, 14]) (by kernel_rfl) (by simp) ?_
    refine AllReadyH.cons rfl (fun K hK => ?_) (AllReadyH.cons rfl (fun K hK => ?_) AllReadyH.nil)
    · skip
      refine step_app _ elem8 (by rfl) (.tmp 104) (.tmp 105) (by rfl) w1.heap.size (A := some ⟨g0, 0, none⟩) (n := 0) (c := 0) [] (by simp [Act.eval, Act.put]) OZ.out _ (A2 := A) (m := n) (c2 := c) (L.map by8) (by simp [Act.eval, Act.put]) (HR.out.kept KK.out (fun _ _ h => h)) (by8_one _) (by simp only [maxLen]; omega) (by omega) (by have := KK.out.size; omega) ?_
      intro A7 c7 w3 o7 k7 _
      rw [Nat.zero_add, List.nil_append] at o7
      have OY := hide o7
      have KK := hide (KK.out.step k7 (fun b hb h => by have := (OZ.out.inB h).1; omega))
      skip
      clear o7 k7
      refine hK.out _ _ trivial (fun hHeld => ?_)
      clear hK K
      rw [Nat.zero_add]
      (try simp only [Act.put, List.setIfInBounds_toArray, List.set_cons_zero, List.set_cons_succ])
      refine wpAnyH_ready (rs := [14]) (by kernel_rfl) (by simp) ?_
      refine AllReadyH.cons rfl (fun K hK => ?_) AllReadyH.nil
      go_simp
      have kA := (Keeps.refl (fun _ => False) w3).alloc (.cells #[.int .u8 (q.toNat : Int)] 5)
      have BB := hide (Blk.new w3 5 #[.int .u8 (q.toNat : Int)])
      have KK := hide (KK.out.trans kA)
      have OY := hide (OY.out.kept kA (fun _ _ h => h))
      clear kA
      refine hK.out _ _ trivial (fun hHeld => ?_)
      clear hK K
      generalize w3.alloc _ = w4 at *
      generalize w3.heap.size = gb at *
      (try simp only [Act.put, List.setIfInBounds_toArray, List.set_cons_zero, List.set_cons_succ])
      trace "A"
      refine wpAnyH_ready (rs := [15]) (by kernel_rfl) (by simp) ?_
      refine AllReadyH.cons rfl (fun K hK => ?_) AllReadyH.nil
      refine step_app _ elem8 (by rfl) (.tmp 106) (.tmp 108) (by rfl) w1.heap.size (A := A7) (n := n) (c := c7) (L.map by8) (by simp [Act.eval, Act.put]) OY.out _ (A2 := some ⟨gb, 0, none⟩) (m := 1) (c2 := 1) [.int .u8 (q.toNat : Int)] (by simp [Act.eval, Act.put]) (BB.out.rd (xs := [.int .u8 (q.toNat : Int)]) (n := 1) (sz := 1) rfl) (by simp [Value.oneCell']) (by simp only [maxLen]; omega) (by omega) (by have := KK.out.size; omega) ?_
      intro A9 c9 w9 o9 k9 _
      have KK := hide (KK.out.step k9 (fun b hb h => by have := (OY.out.inB h).1; omega))
      have O9 := hide (show Own w9 w1.heap.size 5 1 A9 (n + 1) c9 ((L ++ [q]).map by8) from by rw [List.map_append]; exact o9)
      clear o9 k9 OY BB
      refine hK.out _ _ trivial (fun hHeld => ?_)
      clear hK K
      (try simp only [Act.put, List.setIfInBounds_toArray, List.set_cons_zero, List.set_cons_succ])
      refine wpAnyH_ready (rs := [16]) (by kernel_rfl) (by simp) ?_
      refine AllReadyH.cons rfl (fun K hK => ?_) AllReadyH.nil
      go_simp
      have kA := (Keeps.refl (fun _ => False) w9).alloc (.cells #[.slice Ab nb cb, .slice A n c, .slice Az nz cz, .slice A' kk c, .slice A9 (n + 1) c9] 46)
      have BG := hide (Blk.new w9 46 #[.slice Ab nb cb, .slice A n c, .slice Az nz cz, .slice A' kk c, .slice A9 (n + 1) c9])
      have KK := hide (KK.out.trans kA)
      have O9 := hide (O9.out.kept kA (fun _ _ h => h))
      clear kA
      generalize w9.alloc _ = wx at *
      generalize w9.heap.size = GS at *
      refine hK.out _ _ trivial (fun hHeld => ?_)
      clear hK K
      (try simp only [Act.put, List.setIfInBounds_toArray, List.set_cons_zero, List.set_cons_succ])
      refine wpAnyH_take (i := 17) (v := ?_) rfl (by kernel_rfl) (by kernel_rfl) (by kernel_rfl) (fun _ _ _ h => h) (Or.inl ⟨by kernel_rfl, ?_⟩) (by trivial) ?_; rotate_left; focus (intro w hSw; (try dsimp only at hSw); go_simp; try (with_reducible rfl)); (try simp only [Act.put, List.setIfInBounds_toArray, List.set_cons_zero, List.set_cons_succ])
      refine wpAnyH_done (by kernel_rfl) ?_ _
      refine ⟨GS, ⟨A', A9, c9, BG.out, ⟨(HRk.out.kept KK.out (fun _ _ h => h)).more KK.out.size, by show kk ≤ c; omega, by show kk ≤ 1000000; omega⟩, ⟨O9.out.rd (by omega), O9.out.le, by show n + 1 ≤ 1000000; omega⟩, KK.out⟩, ⟨_, _, _, _, _, _, _, _, _, _, _, _, _, _, _, _, rfl⟩⟩
    · skip
      go_simp
      have kA := (Keeps.refl (fun _ => False) w2).alloc (.cells #[.int .u8 (q.toNat : Int)] 5)
      have BB := hide (Blk.new w2 5 #[.int .u8 (q.toNat : Int)])
      have KK := hide (KK.out.trans kA)
      have OZ := hide (OZ.out.kept kA (fun _ _ h => h))
      clear kA
      refine hK.out _ _ trivial (fun hHeld => ?_)
      clear hK K
      generalize w2.alloc _ = w3 at *
      generalize w2.heap.size = gb at *
      (try simp only [Act.put, List.setIfInBounds_toArray, List.set_cons_zero, List.set_cons_succ])
      refine wpAnyH_ready (rs := [12]) (by kernel_rfl) (by simp) ?_
      refine AllReadyH.cons rfl (fun K hK => ?_) AllReadyH.nil
      refine step_app _ elem8 (by rfl) (.tmp 104) (.tmp 105) (by rfl) w1.heap.size (A := some ⟨g0, 0, none⟩) (n := 0) (c := 0) [] (by simp [Act.eval, Act.put]) OZ.out _ (A2 := A) (m := n) (c2 := c) (L.map by8) (by simp [Act.eval, Act.put]) (HR.out.kept KK.out (fun _ _ h => h)) (by8_one _) (by simp only [maxLen]; omega) (by omega) (by have := KK.out.size; omega) ?_
      intro A7 c7 w4 o7 k7 _
      rw [Nat.zero_add, List.nil_append] at o7
      have OY := hide o7
      have KK := hide (KK.out.step k7 (fun b hb h => by have := (OZ.out.inB h).1; omega))
      have BB := hide (BB.out.kept k7 (fun h => by have := (inB_some _ _ _).1 h; omega))
      clear o7 k7
      refine hK.out _ _ trivial (fun hHeld => ?_)
      clear hK K
      rw [Nat.zero_add]
      (try simp only [Act.put, List.setIfInBounds_toArray, List.set_cons_zero, List.set_cons_succ])
      trace "B"
      refine wpAnyH_ready (rs := [15]) (by kernel_rfl) (by simp) ?_
      refine AllReadyH.cons rfl (fun K hK => ?_) AllReadyH.nil
      refine step_app _ elem8 (by rfl) (.tmp 106) (.tmp 108) (by rfl) w1.heap.size (A := A7) (n := n) (c := c7) (L.map by8) (by simp [Act.eval, Act.put]) OY.out _ (A2 := some ⟨gb, 0, none⟩) (m := 1) (c2 := 1) [.int .u8 (q.toNat : Int)] (by simp [Act.eval, Act.put]) (BB.out.rd (xs := [.int .u8 (q.toNat : Int)]) (n := 1) (sz := 1) rfl) (by simp [Value.oneCell']) (by simp only [maxLen]; omega) (by omega) (by have := KK.out.size; omega) ?_
      intro A9 c9 w9 o9 k9 _
      have KK := hide (KK.out.step k9 (fun b hb h => by have := (OY.out.inB h).1; omega))
      have O9 := hide (show Own w9 w1.heap.size 5 1 A9 (n + 1) c9 ((L ++ [q]).map by8) from by rw [List.map_append]; exact o9)
      clear o9 k9 OY BB
      refine hK.out _ _ trivial (fun hHeld => ?_)
      clear hK K
      (try simp only [Act.put, List.setIfInBounds_toArray, List.set_cons_zero, List.set_cons_succ])
      refine wpAnyH_ready (rs := [16]) (by kernel_rfl) (by simp) ?_
      refine AllReadyH.cons rfl (fun K hK => ?_) AllReadyH.nil
      go_simp
      have kA := (Keeps.refl (fun _ => False) w9).alloc (.cells #[.slice Ab nb cb, .slice A n c, .slice Az nz cz, .slice A' kk c, .slice A9 (n + 1) c9] 46)
      have BG := hide (Blk.new w9 46 #[.slice Ab nb cb, .slice A n c, .slice Az nz cz, .slice A' kk c, .slice A9 (n + 1) c9])
      have KK := hide (KK.out.trans kA)
      have O9 := hide (O9.out.kept kA (fun _ _ h => h))
      clear kA
      generalize w9.alloc _ = wx at *
      generalize w9.heap.size = GS at *
      refine hK.out _ _ trivial (fun hHeld => ?_)
      clear hK K
      (try simp only [Act.put, List.setIfInBounds_toArray, List.set_cons_zero, List.set_cons_succ])
      refine wpAnyH_take (i := 17) (v := ?_) rfl (by kernel_rfl) (by kernel_rfl) (by kernel_rfl) (fun _ _ _ h => h) (Or.inl ⟨by kernel_rfl, ?_⟩) (by trivial) ?_; rotate_left; focus (intro w hSw; (try dsimp only at hSw); go_simp; try (with_reducible rfl)); (try simp only [Act.put, List.setIfInBounds_toArray, List.set_cons_zero, List.set_cons_succ])
      refine wpAnyH_done (by kernel_rfl) ?_ _
      refine ⟨GS, ⟨A', A9, c9, BG.out, ⟨(HRk.out.kept KK.out (fun _ _ h => h)).more KK.out.size, by show kk ≤ c; omega, by show kk ≤ 1000000; omega⟩, ⟨O9.out.rd (by omega), O9.out.le, by show n + 1 ≤ 1000000; omega⟩, KK.out⟩, ⟨_, _, _, _, _, _, _, _, _, _, _, _, _, _, _, _, rfl⟩⟩
  · skip
    go_simp
    have kA := (Keeps.refl (fun _ => False) wd).alloc (.cells #[.int .u8 (q.toNat : Int)] 5)
    have BB := hide (Blk.new wd 5 #[.int .u8 (q.toNat : Int)])
    have KK := hide (KK.out.trans kA)
    skip
    clear kA
    refine hK.out _ _ trivial (fun hHeld => ?_)
    clear hK K
    generalize wd.alloc _ = w2 at *
    generalize wd.heap.size = gb at *
    (try simp only [Act.put, List.setIfInBounds_toArray, List.set_cons_zero, List.set_cons_succ])
    refine wpAnyH_ready (rs := [10]) (by kernel_rfl) (by simp) ?_
    refine AllReadyH.cons rfl (fun K hK => ?_) AllReadyH.nil
    go_simp
    have kA := (Keeps.refl (fun _ => False) w2).alloc (.cells #[] 5)
    have OZ := hide (Own.new0 w2 w1.heap.size 5 1 w2.heap.size rfl KK.out.size)
    have KK := hide (KK.out.trans kA)
    have hg0 := KK.out.size
    have hgX : w2.heap.size < (w2.alloc (.cells #[] 5)).heap.size := by simp
    (have hgb := BB.out.lt; have BB := hide (BB.out.kept kA (fun h => h)))
    clear kA
    refine hK.out _ _ trivial (fun hHeld => ?_)
    clear hK K
    generalize w2.alloc _ = w3 at *
    generalize w2.heap.size = g0 at *
    (try simp only [Act.put, List.setIfInBounds_toArray, List.set_cons_zero, List.set_cons_succ])
    refine wpAnyH_ready (rs := [12]) (by kernel_rfl) (by simp) ?_
    refine AllReadyH.cons rfl (fun K hK => ?_) AllReadyH.nil
    refine step_app _ elem8 (by rfl) (.tmp 104) (.tmp 105) (by rfl) w1.heap.size (A := some ⟨g0, 0, none⟩) (n := 0) (c := 0) [] (by simp [Act.eval, Act.put]) OZ.out _ (A2 := A) (m := n) (c2 := c) (L.map by8) (by simp [Act.eval, Act.put]) (HR.out.kept KK.out (fun _ _ h => h)) (by8_one _) (by simp only [maxLen]; omega) (by omega) (by have := KK.out.size; omega) ?_
    intro A7 c7 w4 o7 k7 _
    rw [Nat.zero_add, List.nil_append] at o7
    have OY := hide o7
    have KK := hide (KK.out.step k7 (fun b hb h => by have := (OZ.out.inB h).1; omega))
    have BB := hide (BB.out.kept k7 (fun h => by have := (inB_some _ _ _).1 h; omega))
    clear o7 k7
    refine hK.out _ _ trivial (fun hHeld => ?_)
    clear hK K
    rw [Nat.zero_add]
    (try simp only [Act.put, List.setIfInBounds_toArray, List.set_cons_zero, List.set_cons_succ])
    trace "C"
    refine wpAnyH_ready (rs := [15]) (by kernel_rfl) (by simp) ?_
    refine AllReadyH.cons rfl (fun K hK => ?_) AllReadyH.nil
    refine step_app _ elem8 (by rfl) (.tmp 106) (.tmp 108) (by rfl) w1.heap.size (A := A7) (n := n) (c := c7) (L.map by8) (by simp [Act.eval, Act.put]) OY.out _ (A2 := some ⟨gb, 0, none⟩) (m := 1) (c2 := 1) [.int .u8 (q.toNat : Int)] (by simp [Act.eval, Act.put]) (BB.out.rd (xs := [.int .u8 (q.toNat : Int)]) (n := 1) (sz := 1) rfl) (by simp [Value.oneCell']) (by simp only [maxLen]; omega) (by omega) (by have := KK.out.size; omega) ?_
    intro A9 c9 w9 o9 k9 _
    have KK := hide (KK.out.step k9 (fun b hb h => by have := (OY.out.inB h).1; omega))
    have O9 := hide (show Own w9 w1.heap.size 5 1 A9 (n + 1) c9 ((L ++ [q]).map by8) from by rw [List.map_append]; exact o9)
    clear o9 k9 OY BB
    refine hK.out _ _ trivial (fun hHeld => ?_)
    clear hK K
    (try simp only [Act.put, List.setIfInBounds_toArray, List.set_cons_zero, List.set_cons_succ])
    refine wpAnyH_ready (rs := [16]) (by kernel_rfl) (by simp) ?_
    refine AllReadyH.cons rfl (fun K hK => ?_) AllReadyH.nil
    go_simp
    have kA := (Keeps.refl (fun _ => False) w9).alloc (.cells #[.slice Ab nb cb, .slice A n c, .slice Az nz cz, .slice A' kk c, .slice A9 (n + 1) c9] 46)
    have BG := hide (Blk.new w9 46 #[.slice Ab nb cb, .slice A n c, .slice Az nz cz, .slice A' kk c, .slice A9 (n + 1) c9])
    have KK := hide (KK.out.trans kA)
    have O9 := hide (O9.out.kept kA (fun _ _ h => h))
    clear kA
    generalize w9.alloc _ = wx at *
    generalize w9.heap.size = GS at *
    refine hK.out _ _ trivial (fun hHeld => ?_)
    clear hK K
    (try simp only [Act.put, List.setIfInBounds_toArray, List.set_cons_zero, List.set_cons_succ])
    refine wpAnyH_take (i := 17) (v := ?_) rfl (by kernel_rfl) (by kernel_rfl) (by kernel_rfl) (fun _ _ _ h => h) (Or.inl ⟨by kernel_rfl, ?_⟩) (by trivial) ?_; rotate_left; focus (intro w hSw; (try dsimp only at hSw); go_simp; try (with_reducible rfl)); (try simp only [Act.put, List.setIfInBounds_toArray, List.set_cons_zero, List.set_cons_succ])
    refine wpAnyH_done (by kernel_rfl) ?_ _
    refine ⟨GS, ⟨A', A9, c9, BG.out, ⟨(HRk.out.kept KK.out (fun _ _ h => h)).more KK.out.size, by show kk ≤ c; omega, by show kk ≤ 1000000; omega⟩, ⟨O9.out.rd (by omega), O9.out.le, by show n + 1 ≤ 1000000; omega⟩, KK.out⟩, ⟨_, _, _, _, _, _, _, _, _, _, _, _, _, _, _, _, rfl⟩⟩
end senc
end Go.Proofs.Ytaiopdipldaimaa
