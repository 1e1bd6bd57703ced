/-
  RouterSet, the great comparison: what the program and the reference say of any configuration is the same.
-/
import Derived.Test.YtgjlibecgkhocaaRy
import Derived.Test.YtgjlibecgkhocaaCfh
set_option linter.unusedVariables false
set_option linter.unusedSimpArgs false
namespace Go.Proofs.Ytgjlibecgkhocaa
open Go.RowKit Cfp

/-- what routing says of a configuration (as a value v) in every world that has kept w1: the program and the reference alike -/
def Routing (w1 : World) (v : Value) (s : ByteArray) (ev hv : Int) (L : List Int) (rv : Int → Int) : Prop :=
  (∀ W, Keeps (fun _ => False) w1 W → Calls Try.prog 14 #[v] W fun e w' => e = .returned (.int .i64 ev) ∧ Keeps (fun _ => False) W w') ∧
  (∀ W, Keeps (fun _ => False) w1 W → Calls Try.prog 15 #[v] W fun e w' => e = .returned (.int .i64 ev) ∧ Keeps (fun _ => False) W w') ∧
  (∀ W, Keeps (fun _ => False) w1 W → Calls Try.prog 16 #[v, .string s] W fun e w' => e = .returned (.int .i64 hv) ∧ Keeps (fun _ => False) W w') ∧
  (∀ W, Keeps (fun _ => False) w1 W → Calls Try.prog 17 #[v, .string s] W fun e w' => e = .returned (.int .i64 hv) ∧ Keeps (fun _ => False) W w') ∧
  (∀ W, Keeps (fun _ => False) w1 W → Calls Try.prog 19 #[v, .string s] W (Lists W L)) ∧
  (∀ W, Keeps (fun _ => False) w1 W → Calls Try.prog 20 #[v, .string s] W (Lists W L)) ∧
  (∀ x, -9223372036854775808 ≤ x → x < 9223372036854775808 → ∀ W, Keeps (fun _ => False) w1 W → Calls Try.prog 21 #[v, .string s, .int .i64 x] W fun e w' => e = .returned (.int .i64 (rv x)) ∧ Keeps (fun _ => False) W w') ∧
  (∀ x, -9223372036854775808 ≤ x → x < 9223372036854775808 → ∀ W, Keeps (fun _ => False) w1 W → Calls Try.prog 22 #[v, .string s, .int .i64 x] W fun e w' => e = .returned (.int .i64 (rv x)) ∧ Keeps (fun _ => False) W w')

theorem lists_nil (w : World) (e : Ending) (w' : World) (h : e = .returned (.slice none 0 0) ∧ Keeps (fun _ => False) w w') : Lists w [] e w' :=
  ⟨none, 0, h.1, by simp, by simp [maxLen], Rd.zero rfl, h.2⟩
theorem routing_any (c : Cfg) (C T : Option Addr) (n k q j B : Nat) (w1 : World) (zs : List Int) (hz : ∀ z ∈ zs, 0 ≤ z ∧ z < 18446744073709551616) (hr : q = 16 → Rd w1 B T 1 16 (zs.map (.int .u64))) (hsd : 0 ≤ c.seed ∧ c.seed < 18446744073709551616) (s : ByteArray) (hs : s.size ≤ 140737488351232) :
    ∃ (ev hv : Int) (L : List Int) (rv : Int → Int), L.length ≤ 8 ∧ Routing w1 (Value.agg #[.int .i64 c.length, .int .i64 c.lateness, .int .i64 c.windows, .int .i64 c.shards, .int .i64 c.spread, .int .i64 c.queue, .int .i64 c.mode, .int .i64 c.slots, .int .i64 c.exact_, .int .u64 c.promote, .int .i64 c.depth, .int .i64 c.width, .int .i64 c.top, .int .i64 c.key, .slice C n k, .slice T q j, .int .u64 c.seed]) s ev hv L rv := by
  by_cases hok : 1 ≤ c.shards ∧ c.shards ≤ 8 ∧ 1 ≤ c.spread ∧ c.spread ≤ c.shards ∧ q = 16
  · obtain ⟨a1, a2, a3, a4, rfl⟩ := hok
    have R : Rtd c := ⟨⟨a1, a2⟩, ⟨a3, a4⟩, hsd⟩
    have hrW : ∀ W, Keeps (fun _ => False) w1 W → Rd W B T 1 16 (zs.map (.int .u64)) := fun W k => (hr rfl).kept k (fun _ _ h => h)
    refine ⟨0, homeOf c zs s, setOf c (homeOf c zs s) c.spread.toNat, fun x => if x < 0 then homeOf c zs s else routeOf c (homeOf c zs s) x, by rw [setOf_len]; omega, ?_, ?_, ?_, ?_, ?_, ?_, ?_, ?_⟩
    · exact fun W _ => (rtcheck_ok c R C T n k j W).mono fun e w' h => ⟨h.1, by rw [h.2]; exact (Keeps.refl _ _).alloc _⟩
    · exact fun W _ => (rrtcheck_ok c R C T n k j W).mono fun e w' h => ⟨h.1, by rw [h.2]; exact (Keeps.refl _ _).alloc _⟩
    · exact fun W kk => home_ok c R C T n k j B W zs hz (hrW W kk) s hs
    · exact fun W kk => rhome_ok c R C T n k j B W zs hz (hrW W kk) s hs
    · exact fun W kk => set_ok c R C T n k j B W zs hz (hrW W kk) s hs
    · exact fun W kk => rset_ok c R C T n k j B W zs hz (hrW W kk) s hs
    · intro x x0 x1 W kk
      by_cases hx : x < 0
      · refine (route_neg c R C T n k j B W zs hz (hrW W kk) s hs x hx x0).mono fun e w' h => ⟨h.1.trans (ret_int ?_), h.2⟩
        exact (if_pos hx).symm
      · refine (route_ok c R C T n k j B W zs hz (hrW W kk) s hs x (by omega) x1).mono fun e w' h => ⟨h.1.trans (ret_int ?_), h.2⟩
        exact (if_neg hx).symm
    · intro x x0 x1 W kk
      by_cases hx : x < 0
      · refine (rroute_neg c R C T n k j B W zs hz (hrW W kk) s hs x hx x0).mono fun e w' h => ⟨h.1.trans (ret_int ?_), h.2⟩
        exact (if_pos hx).symm
      · refine (rroute_ok c R C T n k j B W zs hz (hrW W kk) s hs x (by omega) x1).mono fun e w' h => ⟨h.1.trans (ret_int ?_), h.2⟩
        exact (if_neg hx).symm
  · have hb : Bad c q := hok
    refine ⟨11, 0, [], fun _ => 0, by simp, ?_, ?_, ?_, ?_, ?_, ?_, ?_, ?_⟩
    · exact fun W _ => (rtcheck_bad c C T n k q j W hb).mono fun e w' h => ⟨h.1, by rw [h.2]; exact (Keeps.refl _ _).alloc _⟩
    · exact fun W _ => (rrtcheck_bad c C T n k q j W hb).mono fun e w' h => ⟨h.1, by rw [h.2]; exact (Keeps.refl _ _).alloc _⟩
    · exact fun W _ => home_bad c C T n k q j W hb s
    · exact fun W _ => rhome_bad c C T n k q j W hb s
    · exact fun W _ => (set_bad c C T n k q j W hb s).mono fun e w' h => lists_nil W e w' h
    · exact fun W _ => (rset_bad c C T n k q j W hb s).mono fun e w' h => lists_nil W e w' h
    · exact fun x _ _ W _ => route_bad c C T n k q j W hb s x
    · exact fun x _ _ W _ => rroute_bad c C T n k q j W hb s x

noncomputable def rg15 : Code := ((Try.f3.body.bind (findReg 15)).getD .skip)
set_option maxRecDepth 1000000 in
set_option maxHeartbeats 4000000 in
theorem reg15 (c : Cfg) (C T : Option Addr) (n k q j X : Nat) (w1 : World) (s : ByteArray) (x : Int) (hx0 : -9223372036854775808 ≤ x) (hx1 : x < 9223372036854775808) (ev hv : Int) (L : List Int) (rv : Int → Int) (hL : L.length ≤ 8)
    (hR : Routing w1 (Value.agg #[.int .i64 c.length, .int .i64 c.lateness, .int .i64 c.windows, .int .i64 c.shards, .int .i64 c.spread, .int .i64 c.queue, .int .i64 c.mode, .int .i64 c.slots, .int .i64 c.exact_, .int .u64 c.promote, .int .i64 c.depth, .int .i64 c.width, .int .i64 c.top, .int .i64 c.key, .slice C n k, .slice T q j, .int .u64 c.seed]) s ev hv L rv) (hX : Blk w1 X 28 #[.int .i64 c.length, .int .i64 c.lateness, .int .i64 c.windows, .int .i64 c.shards, .int .i64 c.spread, .int .i64 c.queue, .int .i64 c.mode, .int .i64 c.slots, .int .i64 c.exact_, .int .u64 c.promote, .int .i64 c.depth, .int .i64 c.width, .int .i64 c.top, .int .i64 c.key, .slice C n k, .slice T q j, .int .u64 c.seed]) (s0 s2 s3 s5 s6 s7 s8 s9 s10 s11 s12 s13 s15 s16 s17 s18 s19 s20 s21 s22 s23 s24 s25 s26 s27 s28 s29 s30 s31 s32 s33 s34 s35 s36 s37 s38 s39 s40 s41 s42 s43 s44 s45 s46 s47 s48 s49 s50 s51 s52 s53 s54 s55 s56 s57 s58 s59 s60 s61 s62 s63 s64 s65 s66 s67 s68 s69 s70 s71 s72 s73 s74 s75 s76 s77 s78 s79 s80 s81 s82 s83 s84 s85 s86 s87 s88 s89 s90 s91 s92 s93 s94 s95 s96 s97 s98 : Value) :
    Code.wp Try.prog rg15 (NormPost fun a' w'' => (∃ v49 v50 v51 v52 v53 v54 v55 v56 v57 v58 v59 v60 v61 v62 v63 v64 v65 v66 v67 v68 v69 v70 v71 v72 v73 v74 v75 v76 v77 v78 v79 v80 v81 v82 v83 v84 v85 v86 v87 v88 v89 v90 v91 v92 v93 v94 v95 : Value, a' = ⟨#[s0, .string s, s2, s3, .int .i64 x, s5, s6, s7, s8, s9, s10, s11, s12, s13, .pointer (some ⟨X, 0, none⟩), s15, s16, s17, s18, s19, s20, s21, s22, s23, s24, s25, s26, s27, s28, s29, s30, s31, s32, s33, s34, s35, s36, s37, s38, s39, s40, s41, s42, s43, s44, s45, s46, s47, s48, v49, v50, v51, v52, v53, v54, v55, v56, v57, v58, v59, v60, v61, v62, v63, v64, v65, v66, v67, v68, v69, v70, v71, v72, v73, v74, v75, v76, v77, v78, v79, v80, v81, v82, v83, v84, v85, v86, v87, v88, v89, v90, v91, v92, v93, v94, v95, .bool false, s97, s98], []⟩) ∧ Keeps (fun _ => False) w1 w'') ⟨#[s0, .string s, s2, s3, .int .i64 x, s5, s6, s7, s8, s9, s10, s11, s12, s13, .pointer (some ⟨X, 0, none⟩), s15, s16, s17, s18, s19, s20, s21, s22, s23, s24, s25, s26, s27, s28, s29, s30, s31, s32, s33, s34, s35, s36, s37, s38, s39, s40, s41, s42, s43, s44, s45, s46, s47, s48, s49, s50, s51, s52, s53, s54, s55, s56, s57, s58, s59, s60, s61, s62, s63, s64, s65, s66, s67, s68, s69, s70, s71, s72, s73, s74, s75, s76, s77, s78, s79, s80, s81, s82, s83, s84, s85, s86, s87, s88, s89, s90, s91, s92, s93, s94, s95, s96, s97, s98], []⟩ w1 := by
  have HR := hide hR
  have BX := hide hX
  have k0 : Keeps (fun _ => False) w1 w1 := Keeps.refl _ _
  have hzw := wf_i64 (wf_bits .and .i64 x 1023)
  obtain ⟨z, hz⟩ : ∃ z, z = bits .and .i64 x 1023 := ⟨_, rfl⟩
  rw [← hz] at hzw
  obtain ⟨hz0, hz1⟩ := hzw
  have h21 := HR.out.2.2.2.2.2.2.1 z hz0 hz1
  rw [hz] at h21
  have HZ1 := hide h21
  have h22 := HR.out.2.2.2.2.2.2.2 z hz0 hz1
  rw [hz] at h22
  have HZ2 := hide h22
  clear hR hX hz h21 h22 hz0 hz1
  conv => arg 2; whnf
  dsimp only
  refine wp_region_held_drew (S := fun w' => Blk w' X 28 #[.int .i64 c.length, .int .i64 c.lateness, .int .i64 c.windows, .int .i64 c.shards, .int .i64 c.spread, .int .i64 c.queue, .int .i64 c.mode, .int .i64 c.slots, .int .i64 c.exact_, .int .u64 c.promote, .int .i64 c.depth, .int .i64 c.width, .int .i64 c.top, .int .i64 c.key, .slice C n k, .slice T q j, .int .u64 c.seed]) (by kernel_rfl) (BX.out.drew) (fun hHeld => ?_)
  refine wpAnyH_take (i := 0) (v := _) rfl (by kernel_rfl) (by kernel_rfl) (by kernel_rfl) (fun _ _ _ h => h) (cfg_yields (c := c) (C := C) (T := T) (n := n) (k := k) (q := q) (j := j) (g := X) (.tmp 14) rfl (fun _ h => h) (by simp [Act.eval, Act.put]) (by kernel_rfl)) (by assumption) ?_
  simp only [Act.put, List.setIfInBounds_toArray, List.set_cons_zero, List.set_cons_succ]
  refine wpAnyH_take (i := 2) (v := _) rfl (by kernel_rfl) (by kernel_rfl) (by kernel_rfl) (fun _ _ _ h => h) (cfg_yields (c := c) (C := C) (T := T) (n := n) (k := k) (q := q) (j := j) (g := X) (.tmp 14) rfl (fun _ h => h) (by simp [Act.eval, Act.put]) (by kernel_rfl)) (by assumption) ?_
  simp only [Act.put, List.setIfInBounds_toArray, List.set_cons_zero, List.set_cons_succ]
  refine wpAnyH_ready (rs := [1]) (by kernel_rfl) (by simp) ?_
  refine AllReadyH.cons rfl (fun K hK => ?_) AllReadyH.nil
  go_simp
  go_at_call 14
  refine (HR.out.1 _ (k0.drew)).mono ?_
  rintro e W1 ⟨rfl, kk⟩
  have k1 : Keeps (fun _ => False) w1 W1 := (k0.drew).trans kk
  try go_wp2_with fail
  refine hK.out _ _ (BX.out.kept k1 (fun h => h)) (fun hHeld => ?_)
  clear hK K kk
  try simp only [Act.put, List.setIfInBounds_toArray, List.set_cons_zero, List.set_cons_succ]
  refine wpAnyH_ready (rs := [3]) (by kernel_rfl) (by simp) ?_
  refine AllReadyH.cons rfl (fun K hK => ?_) AllReadyH.nil
  go_simp
  go_at_call 15
  refine (HR.out.2.1 _ (k1)).mono ?_
  rintro e W2 ⟨rfl, kk⟩
  have k2 : Keeps (fun _ => False) w1 W2 := (k1).trans kk
  try go_wp2_with fail
  refine hK.out _ _ (BX.out.kept k2 (fun h => h)) (fun hHeld => ?_)
  clear hK K kk
  try simp only [Act.put, List.setIfInBounds_toArray, List.set_cons_zero, List.set_cons_succ]
  refine wpAnyH_take (i := 4) (v := ?_) rfl (by kernel_rfl) (by kernel_rfl) (by kernel_rfl) (fun _ _ _ h => h) (Or.inl ⟨by kernel_rfl, ?_⟩) (by assumption) ?_; rotate_left; focus (intro w hSw; (try dsimp only at hSw); go_simp; try (with_reducible rfl)); (try simp only [Act.put, List.setIfInBounds_toArray, List.set_cons_zero, List.set_cons_succ])
  refine wpAnyH_take (i := 5) (v := ?_) rfl (by kernel_rfl) (by kernel_rfl) (by kernel_rfl) (fun _ _ _ h => h) (Or.inl ⟨by kernel_rfl, ?_⟩) (by assumption) ?_; rotate_left; focus (intro w hSw; (try dsimp only at hSw); go_simp; try (with_reducible rfl)); (try simp only [Act.put, List.setIfInBounds_toArray, List.set_cons_zero, List.set_cons_succ])
  refine wpAnyH_take (i := 6) (v := _) rfl (by kernel_rfl) (by kernel_rfl) (by kernel_rfl) (fun _ _ _ h => h) (cfg_yields (c := c) (C := C) (T := T) (n := n) (k := k) (q := q) (j := j) (g := X) (.tmp 14) rfl (fun _ h => h) (by simp [Act.eval, Act.put]) (by kernel_rfl)) (by assumption) ?_
  simp only [Act.put, List.setIfInBounds_toArray, List.set_cons_zero, List.set_cons_succ]
  refine wpAnyH_take (i := 7) (v := ?_) rfl (by kernel_rfl) (by kernel_rfl) (by kernel_rfl) (fun _ _ _ h => h) (Or.inl ⟨by kernel_rfl, ?_⟩) (by assumption) ?_; rotate_left; focus (intro w hSw; (try dsimp only at hSw); go_simp; try (with_reducible rfl)); (try simp only [Act.put, List.setIfInBounds_toArray, List.set_cons_zero, List.set_cons_succ])
  refine wpAnyH_take (i := 9) (v := _) rfl (by kernel_rfl) (by kernel_rfl) (by kernel_rfl) (fun _ _ _ h => h) (cfg_yields (c := c) (C := C) (T := T) (n := n) (k := k) (q := q) (j := j) (g := X) (.tmp 14) rfl (fun _ h => h) (by simp [Act.eval, Act.put]) (by kernel_rfl)) (by assumption) ?_
  simp only [Act.put, List.setIfInBounds_toArray, List.set_cons_zero, List.set_cons_succ]
  refine wpAnyH_take (i := 10) (v := ?_) rfl (by kernel_rfl) (by kernel_rfl) (by kernel_rfl) (fun _ _ _ h => h) (Or.inl ⟨by kernel_rfl, ?_⟩) (by assumption) ?_; rotate_left; focus (intro w hSw; (try dsimp only at hSw); go_simp; try (with_reducible rfl)); (try simp only [Act.put, List.setIfInBounds_toArray, List.set_cons_zero, List.set_cons_succ])
  refine wpAnyH_ready (rs := [8]) (by kernel_rfl) (by simp) ?_
  refine AllReadyH.cons rfl (fun K hK => ?_) AllReadyH.nil
  go_simp
  go_at_call 16
  refine (HR.out.2.2.1 _ (k2)).mono ?_
  rintro e W3 ⟨rfl, kk⟩
  have k3 : Keeps (fun _ => False) w1 W3 := (k2).trans kk
  try go_wp2_with fail
  refine hK.out _ _ (BX.out.kept k3 (fun h => h)) (fun hHeld => ?_)
  clear hK K kk
  try simp only [Act.put, List.setIfInBounds_toArray, List.set_cons_zero, List.set_cons_succ]
  refine wpAnyH_ready (rs := [11]) (by kernel_rfl) (by simp) ?_
  refine AllReadyH.cons rfl (fun K hK => ?_) AllReadyH.nil
  go_simp
  go_at_call 17
  refine (HR.out.2.2.2.1 _ (k3)).mono ?_
  rintro e W4 ⟨rfl, kk⟩
  have k4 : Keeps (fun _ => False) w1 W4 := (k3).trans kk
  try go_wp2_with fail
  refine hK.out _ _ (BX.out.kept k4 (fun h => h)) (fun hHeld => ?_)
  clear hK K kk
  try simp only [Act.put, List.setIfInBounds_toArray, List.set_cons_zero, List.set_cons_succ]
  refine wpAnyH_take (i := 12) (v := ?_) rfl (by kernel_rfl) (by kernel_rfl) (by kernel_rfl) (fun _ _ _ h => h) (Or.inl ⟨by kernel_rfl, ?_⟩) (by assumption) ?_; rotate_left; focus (intro w hSw; (try dsimp only at hSw); go_simp; try (with_reducible rfl)); (try simp only [Act.put, List.setIfInBounds_toArray, List.set_cons_zero, List.set_cons_succ])
  refine wpAnyH_take (i := 13) (v := ?_) rfl (by kernel_rfl) (by kernel_rfl) (by kernel_rfl) (fun _ _ _ h => h) (Or.inl ⟨by kernel_rfl, ?_⟩) (by assumption) ?_; rotate_left; focus (intro w hSw; (try dsimp only at hSw); go_simp; try (with_reducible rfl)); (try simp only [Act.put, List.setIfInBounds_toArray, List.set_cons_zero, List.set_cons_succ])
  refine wpAnyH_take (i := 14) (v := ?_) rfl (by kernel_rfl) (by kernel_rfl) (by kernel_rfl) (fun _ _ _ h => h) (Or.inl ⟨by kernel_rfl, ?_⟩) (by assumption) ?_; rotate_left; focus (intro w hSw; (try dsimp only at hSw); go_simp; try (with_reducible rfl)); (try simp only [Act.put, List.setIfInBounds_toArray, List.set_cons_zero, List.set_cons_succ])
  refine wpAnyH_take (i := 15) (v := _) rfl (by kernel_rfl) (by kernel_rfl) (by kernel_rfl) (fun _ _ _ h => h) (cfg_yields (c := c) (C := C) (T := T) (n := n) (k := k) (q := q) (j := j) (g := X) (.tmp 14) rfl (fun _ h => h) (by simp [Act.eval, Act.put]) (by kernel_rfl)) (by assumption) ?_
  simp only [Act.put, List.setIfInBounds_toArray, List.set_cons_zero, List.set_cons_succ]
  refine wpAnyH_take (i := 16) (v := ?_) rfl (by kernel_rfl) (by kernel_rfl) (by kernel_rfl) (fun _ _ _ h => h) (Or.inl ⟨by kernel_rfl, ?_⟩) (by assumption) ?_; rotate_left; focus (intro w hSw; (try dsimp only at hSw); go_simp; try (with_reducible rfl)); (try simp only [Act.put, List.setIfInBounds_toArray, List.set_cons_zero, List.set_cons_succ])
  refine wpAnyH_take (i := 18) (v := _) rfl (by kernel_rfl) (by kernel_rfl) (by kernel_rfl) (fun _ _ _ h => h) (cfg_yields (c := c) (C := C) (T := T) (n := n) (k := k) (q := q) (j := j) (g := X) (.tmp 14) rfl (fun _ h => h) (by simp [Act.eval, Act.put]) (by kernel_rfl)) (by assumption) ?_
  simp only [Act.put, List.setIfInBounds_toArray, List.set_cons_zero, List.set_cons_succ]
  refine wpAnyH_take (i := 19) (v := ?_) rfl (by kernel_rfl) (by kernel_rfl) (by kernel_rfl) (fun _ _ _ h => h) (Or.inl ⟨by kernel_rfl, ?_⟩) (by assumption) ?_; rotate_left; focus (intro w hSw; (try dsimp only at hSw); go_simp; try (with_reducible rfl)); (try simp only [Act.put, List.setIfInBounds_toArray, List.set_cons_zero, List.set_cons_succ])
  refine wpAnyH_ready (rs := [17]) (by kernel_rfl) (by simp) ?_
  refine AllReadyH.cons rfl (fun K hK => ?_) AllReadyH.nil
  go_simp
  go_at_call 19
  refine (HR.out.2.2.2.2.1 _ (k4)).mono ?_
  rintro e W5 ⟨A, cc, rfl, lc, cm, rl, kk⟩
  have k5 : Keeps (fun _ => False) w1 W5 := (k4).trans kk
  have RL := hide rl
  clear rl
  try go_wp2_with fail
  refine hK.out _ _ (BX.out.kept k5 (fun h => h)) (fun hHeld => ?_)
  clear hK K kk
  try simp only [Act.put, List.setIfInBounds_toArray, List.set_cons_zero, List.set_cons_succ]
  refine wpAnyH_ready (rs := [20]) (by kernel_rfl) (by simp) ?_
  refine AllReadyH.cons rfl (fun K hK => ?_) AllReadyH.nil
  go_simp
  go_at_call 20
  refine (HR.out.2.2.2.2.2.1 _ (k5)).mono ?_
  rintro e W6 ⟨A2, cc2, rfl, lc2, cm2, rl2, kk⟩
  have k6 : Keeps (fun _ => False) w1 W6 := (k5).trans kk
  have RL1 := hide (RL.out.kept kk (fun _ _ h => h))
  have RL2 := hide rl2
  clear rl2 RL
  try go_wp2_with fail
  refine hK.out _ _ (BX.out.kept k6 (fun h => h)) (fun hHeld => ?_)
  clear hK K kk
  try simp only [Act.put, List.setIfInBounds_toArray, List.set_cons_zero, List.set_cons_succ]
  refine wpAnyH_ready (rs := [21]) (by kernel_rfl) (by simp) ?_
  refine AllReadyH.cons rfl (fun K hK => ?_) AllReadyH.nil
  go_simp
  go_at_call 18
  refine (sameInts_any L A A2 L.length cc cc2 _ _ _ RL1.out RL2.out (by omega)).mono ?_
  rintro e W7 ⟨rfl, nq, rfl⟩
  have k7 := k6.drewN nq
  try go_wp2_with fail
  refine hK.out _ _ (BX.out.kept k7 (fun h => h)) (fun hHeld => ?_)
  clear hK K RL1 RL2
  try simp only [Act.put, List.setIfInBounds_toArray, List.set_cons_zero, List.set_cons_succ]
  refine wpAnyH_take (i := 22) (v := ?_) rfl (by kernel_rfl) (by kernel_rfl) (by kernel_rfl) (fun _ _ _ h => h) (Or.inl ⟨by kernel_rfl, ?_⟩) (by assumption) ?_; rotate_left; focus (intro w hSw; (try dsimp only at hSw); go_simp; try (with_reducible rfl)); (try simp only [Act.put, List.setIfInBounds_toArray, List.set_cons_zero, List.set_cons_succ])
  refine wpAnyH_take (i := 23) (v := ?_) rfl (by kernel_rfl) (by kernel_rfl) (by kernel_rfl) (fun _ _ _ h => h) (Or.inl ⟨by kernel_rfl, ?_⟩) (by assumption) ?_; rotate_left; focus (intro w hSw; (try dsimp only at hSw); go_simp; try (with_reducible rfl)); (try simp only [Act.put, List.setIfInBounds_toArray, List.set_cons_zero, List.set_cons_succ])
  refine wpAnyH_take (i := 24) (v := ?_) rfl (by kernel_rfl) (by kernel_rfl) (by kernel_rfl) (fun _ _ _ h => h) (Or.inl ⟨by kernel_rfl, ?_⟩) (by assumption) ?_; rotate_left; focus (intro w hSw; (try dsimp only at hSw); go_simp; try (with_reducible rfl)); (try simp only [Act.put, List.setIfInBounds_toArray, List.set_cons_zero, List.set_cons_succ])
  refine wpAnyH_take (i := 25) (v := _) rfl (by kernel_rfl) (by kernel_rfl) (by kernel_rfl) (fun _ _ _ h => h) (cfg_yields (c := c) (C := C) (T := T) (n := n) (k := k) (q := q) (j := j) (g := X) (.tmp 14) rfl (fun _ h => h) (by simp [Act.eval, Act.put]) (by kernel_rfl)) (by assumption) ?_
  simp only [Act.put, List.setIfInBounds_toArray, List.set_cons_zero, List.set_cons_succ]
  refine wpAnyH_take (i := 26) (v := ?_) rfl (by kernel_rfl) (by kernel_rfl) (by kernel_rfl) (fun _ _ _ h => h) (Or.inl ⟨by kernel_rfl, ?_⟩) (by assumption) ?_; rotate_left; focus (intro w hSw; (try dsimp only at hSw); go_simp; try (with_reducible rfl)); (try simp only [Act.put, List.setIfInBounds_toArray, List.set_cons_zero, List.set_cons_succ])
  refine wpAnyH_take (i := 27) (v := ?_) rfl (by kernel_rfl) (by kernel_rfl) (by kernel_rfl) (fun _ _ _ h => h) (Or.inl ⟨by kernel_rfl, ?_⟩) (by assumption) ?_; rotate_left; focus (intro w hSw; (try dsimp only at hSw); go_simp; try (with_reducible rfl)); (try simp only [Act.put, List.setIfInBounds_toArray, List.set_cons_zero, List.set_cons_succ])
  refine wpAnyH_take (i := 29) (v := _) rfl (by kernel_rfl) (by kernel_rfl) (by kernel_rfl) (fun _ _ _ h => h) (cfg_yields (c := c) (C := C) (T := T) (n := n) (k := k) (q := q) (j := j) (g := X) (.tmp 14) rfl (fun _ h => h) (by simp [Act.eval, Act.put]) (by kernel_rfl)) (by assumption) ?_
  simp only [Act.put, List.setIfInBounds_toArray, List.set_cons_zero, List.set_cons_succ]
  refine wpAnyH_take (i := 30) (v := ?_) rfl (by kernel_rfl) (by kernel_rfl) (by kernel_rfl) (fun _ _ _ h => h) (Or.inl ⟨by kernel_rfl, ?_⟩) (by assumption) ?_; rotate_left; focus (intro w hSw; (try dsimp only at hSw); go_simp; try (with_reducible rfl)); (try simp only [Act.put, List.setIfInBounds_toArray, List.set_cons_zero, List.set_cons_succ])
  refine wpAnyH_take (i := 31) (v := ?_) rfl (by kernel_rfl) (by kernel_rfl) (by kernel_rfl) (fun _ _ _ h => h) (Or.inl ⟨by kernel_rfl, ?_⟩) (by assumption) ?_; rotate_left; focus (intro w hSw; (try dsimp only at hSw); go_simp; try (with_reducible rfl)); (try simp only [Act.put, List.setIfInBounds_toArray, List.set_cons_zero, List.set_cons_succ])
  refine wpAnyH_ready (rs := [28]) (by kernel_rfl) (by simp) ?_
  refine AllReadyH.cons rfl (fun K hK => ?_) AllReadyH.nil
  go_simp
  go_at_call 21
  refine (HR.out.2.2.2.2.2.2.1 x hx0 hx1 _ (k7)).mono ?_
  rintro e W8 ⟨rfl, kk⟩
  have k8 : Keeps (fun _ => False) w1 W8 := (k7).trans kk
  try go_wp2_with fail
  refine hK.out _ _ (BX.out.kept k8 (fun h => h)) (fun hHeld => ?_)
  clear hK K kk
  try simp only [Act.put, List.setIfInBounds_toArray, List.set_cons_zero, List.set_cons_succ]
  refine wpAnyH_ready (rs := [32]) (by kernel_rfl) (by simp) ?_
  refine AllReadyH.cons rfl (fun K hK => ?_) AllReadyH.nil
  go_simp
  go_at_call 22
  refine (HR.out.2.2.2.2.2.2.2 x hx0 hx1 _ (k8)).mono ?_
  rintro e W9 ⟨rfl, kk⟩
  have k9 : Keeps (fun _ => False) w1 W9 := (k8).trans kk
  try go_wp2_with fail
  refine hK.out _ _ (BX.out.kept k9 (fun h => h)) (fun hHeld => ?_)
  clear hK K kk
  try simp only [Act.put, List.setIfInBounds_toArray, List.set_cons_zero, List.set_cons_succ]
  refine wpAnyH_take (i := 33) (v := ?_) rfl (by kernel_rfl) (by kernel_rfl) (by kernel_rfl) (fun _ _ _ h => h) (Or.inl ⟨by kernel_rfl, ?_⟩) (by assumption) ?_; rotate_left; focus (intro w hSw; (try dsimp only at hSw); go_simp; try (with_reducible rfl)); (try simp only [Act.put, List.setIfInBounds_toArray, List.set_cons_zero, List.set_cons_succ])
  refine wpAnyH_take (i := 34) (v := ?_) rfl (by kernel_rfl) (by kernel_rfl) (by kernel_rfl) (fun _ _ _ h => h) (Or.inl ⟨by kernel_rfl, ?_⟩) (by assumption) ?_; rotate_left; focus (intro w hSw; (try dsimp only at hSw); go_simp; try (with_reducible rfl)); (try simp only [Act.put, List.setIfInBounds_toArray, List.set_cons_zero, List.set_cons_succ])
  refine wpAnyH_take (i := 35) (v := ?_) rfl (by kernel_rfl) (by kernel_rfl) (by kernel_rfl) (fun _ _ _ h => h) (Or.inl ⟨by kernel_rfl, ?_⟩) (by assumption) ?_; rotate_left; focus (intro w hSw; (try dsimp only at hSw); go_simp; try (with_reducible rfl)); (try simp only [Act.put, List.setIfInBounds_toArray, List.set_cons_zero, List.set_cons_succ])
  refine wpAnyH_take (i := 36) (v := _) rfl (by kernel_rfl) (by kernel_rfl) (by kernel_rfl) (fun _ _ _ h => h) (cfg_yields (c := c) (C := C) (T := T) (n := n) (k := k) (q := q) (j := j) (g := X) (.tmp 14) rfl (fun _ h => h) (by simp [Act.eval, Act.put]) (by kernel_rfl)) (by assumption) ?_
  simp only [Act.put, List.setIfInBounds_toArray, List.set_cons_zero, List.set_cons_succ]
  refine wpAnyH_take (i := 37) (v := ?_) rfl (by kernel_rfl) (by kernel_rfl) (by kernel_rfl) (fun _ _ _ h => h) (Or.inl ⟨by kernel_rfl, ?_⟩) (by assumption) ?_; rotate_left; focus (intro w hSw; (try dsimp only at hSw); go_simp; try (with_reducible rfl)); (try simp only [Act.put, List.setIfInBounds_toArray, List.set_cons_zero, List.set_cons_succ])
  refine wpAnyH_take (i := 38) (v := ?_) rfl (by kernel_rfl) (by kernel_rfl) (by kernel_rfl) (fun _ _ _ h => h) (Or.inl ⟨by kernel_rfl, ?_⟩) (by assumption) ?_; rotate_left; focus (intro w hSw; (try dsimp only at hSw); go_simp; try (with_reducible rfl)); (try simp only [Act.put, List.setIfInBounds_toArray, List.set_cons_zero, List.set_cons_succ])
  refine wpAnyH_take (i := 39) (v := ?_) rfl (by kernel_rfl) (by kernel_rfl) (by kernel_rfl) (fun _ _ _ h => h) (Or.inl ⟨by kernel_rfl, ?_⟩) (by assumption) ?_; rotate_left; focus (intro w hSw; (try dsimp only at hSw); go_simp; try (with_reducible rfl)); (try simp only [Act.put, List.setIfInBounds_toArray, List.set_cons_zero, List.set_cons_succ])
  refine wpAnyH_take (i := 41) (v := _) rfl (by kernel_rfl) (by kernel_rfl) (by kernel_rfl) (fun _ _ _ h => h) (cfg_yields (c := c) (C := C) (T := T) (n := n) (k := k) (q := q) (j := j) (g := X) (.tmp 14) rfl (fun _ h => h) (by simp [Act.eval, Act.put]) (by kernel_rfl)) (by assumption) ?_
  simp only [Act.put, List.setIfInBounds_toArray, List.set_cons_zero, List.set_cons_succ]
  refine wpAnyH_take (i := 42) (v := ?_) rfl (by kernel_rfl) (by kernel_rfl) (by kernel_rfl) (fun _ _ _ h => h) (Or.inl ⟨by kernel_rfl, ?_⟩) (by assumption) ?_; rotate_left; focus (intro w hSw; (try dsimp only at hSw); go_simp; try (with_reducible rfl)); (try simp only [Act.put, List.setIfInBounds_toArray, List.set_cons_zero, List.set_cons_succ])
  refine wpAnyH_take (i := 43) (v := ?_) rfl (by kernel_rfl) (by kernel_rfl) (by kernel_rfl) (fun _ _ _ h => h) (Or.inl ⟨by kernel_rfl, ?_⟩) (by assumption) ?_; rotate_left; focus (intro w hSw; (try dsimp only at hSw); go_simp; try (with_reducible rfl)); (try simp only [Act.put, List.setIfInBounds_toArray, List.set_cons_zero, List.set_cons_succ])
  refine wpAnyH_take (i := 44) (v := ?_) rfl (by kernel_rfl) (by kernel_rfl) (by kernel_rfl) (fun _ _ _ h => h) (Or.inl ⟨by kernel_rfl, ?_⟩) (by assumption) ?_; rotate_left; focus (intro w hSw; (try dsimp only at hSw); go_simp; try (with_reducible rfl)); (try simp only [Act.put, List.setIfInBounds_toArray, List.set_cons_zero, List.set_cons_succ])
  refine wpAnyH_ready (rs := [40]) (by kernel_rfl) (by simp) ?_
  refine AllReadyH.cons rfl (fun K hK => ?_) AllReadyH.nil
  go_simp
  go_at_call 21
  refine (HZ1.out _ (k9)).mono ?_
  rintro e W10 ⟨rfl, kk⟩
  have k10 : Keeps (fun _ => False) w1 W10 := (k9).trans kk
  try go_wp2_with fail
  refine hK.out _ _ (BX.out.kept k10 (fun h => h)) (fun hHeld => ?_)
  clear hK K kk
  try simp only [Act.put, List.setIfInBounds_toArray, List.set_cons_zero, List.set_cons_succ]
  refine wpAnyH_ready (rs := [45]) (by kernel_rfl) (by simp) ?_
  refine AllReadyH.cons rfl (fun K hK => ?_) AllReadyH.nil
  go_simp
  go_at_call 22
  refine (HZ2.out _ (k10)).mono ?_
  rintro e W11 ⟨rfl, kk⟩
  have k11 : Keeps (fun _ => False) w1 W11 := (k10).trans kk
  try go_wp2_with fail
  refine hK.out _ _ (BX.out.kept k11 (fun h => h)) (fun hHeld => ?_)
  clear hK K kk
  try simp only [Act.put, List.setIfInBounds_toArray, List.set_cons_zero, List.set_cons_succ]
  refine wpAnyH_take (i := 46) (v := ?_) rfl (by kernel_rfl) (by kernel_rfl) (by kernel_rfl) (fun _ _ _ h => h) (Or.inl ⟨by kernel_rfl, ?_⟩) (by assumption) ?_; rotate_left; focus (intro w hSw; (try dsimp only at hSw); go_simp; try (with_reducible rfl)); (try simp only [Act.put, List.setIfInBounds_toArray, List.set_cons_zero, List.set_cons_succ])
  refine wpAnyH_take (i := 47) (v := ?_) rfl (by kernel_rfl) (by kernel_rfl) (by kernel_rfl) (fun _ _ _ h => h) (Or.inl ⟨by kernel_rfl, ?_⟩) (by assumption) ?_; rotate_left; focus (intro w hSw; (try dsimp only at hSw); go_simp; try (with_reducible rfl)); (try simp only [Act.put, List.setIfInBounds_toArray, List.set_cons_zero, List.set_cons_succ])
  refine wpAnyH_done (by kernel_rfl) ?_ _
  refine ⟨⟨_, _, _, _, _, _, _, _, _, _, _, _, _, _, _, _, _, _, _, _, _, _, _, _, _, _, _, _, _, _, _, _, _, _, _, _, _, _, _, _, _, _, _, _, _, _, _, rfl⟩, k11⟩
end Go.Proofs.Ytgjlibecgkhocaa
