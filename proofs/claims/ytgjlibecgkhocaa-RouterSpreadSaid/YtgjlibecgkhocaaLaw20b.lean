/-
  RouterWhole: with as many shards in a set as there are, every key goes to all shards, and with one shard in a set it always goes to its home; the walk. No conditions beyond those of the statement.
-/
import Derived.Test.YtgjlibecgkhocaaCfg
import Derived.Test.YtgjlibecgkhocaaLaw20a
set_option linter.unusedVariables false
set_option linter.unusedSimpArgs false
namespace Go.Proofs.Ytgjlibecgkhocaa
open Go.RowKit Cfp

theorem Mild.rtd {c : Cfg} (h : Mild c) (sp : Int) (h0 : 1 ≤ sp) (h1 : sp ≤ c.shards) : Rtd { c with spread := sp } := ⟨h.fine.shards, ⟨h0, h1⟩, h.fine.seed⟩

namespace routerWhole
/-- among the first k numbers is i -/
def there (L : List Int) (i : Int) (k : Nat) : Bool := (L.take k).any (· == i)
theorem there_succ (L : List Int) (i : Int) (k : Nat) (h : k < L.length) : there L i (k + 1) = (there L i k || (L.getD k 0 == i)) := by
  unfold there
  rw [List.take_succ_eq_append_getElem h, List.any_append]
  simp [List.getD, h]
theorem there_all (c : Cfg) (h : Rtd c) (hm : Int) (h0 : 0 ≤ hm) (sh : Nat) (hsh : c.shards = (sh : Int)) (i : Nat) (hi : i < sh) : there (setOf c hm sh) (i : Int) sh = true := by
  unfold there
  rw [List.take_of_length_le (by rw [setOf_len]; omega), List.any_eq_true]
  have e1 : 0 ≤ ((i : Int) - hm) % (sh : Int) := Int.emod_nonneg _ (by omega)
  have e2 : ((i : Int) - hm) % (sh : Int) < (sh : Int) := Int.emod_lt_of_pos _ (by omega)
  refine ⟨(i : Int), ?_, by simp⟩
  unfold setOf
  rw [List.mem_map]
  refine ⟨(((i : Int) - hm) % (sh : Int)).toNat, by rw [List.mem_range]; omega, ?_⟩
  rw [hsh, Int.toNat_of_nonneg e1, Int.add_emod_emod]
  rw [show hm + ((i : Int) - hm) = (i : Int) from by omega]
  exact Int.emod_eq_of_lt (by omega) (by omega)

set_option maxRecDepth 100000 in
set_option maxHeartbeats 1500000 in
theorem main (w : World) (A1 : Option Addr) (n1 c1 : Nat) (zs : List Int) (hd : Rd w w.heap.size A1 1 n1 (zs.map (.int .i64))) (hz : ∀ z ∈ zs, -9223372036854775808 ≤ z ∧ z < 9223372036854775808) (hn1 : n1 ≤ 17592186043904)
    (s : ByteArray) (hs : s.size ≤ 140737488351232) (x : Int) (x0 : 0 ≤ x) (x1 : x < 65536) :
    Calls Try.prog 5 #[.slice A1 n1 c1, .string s, .int .u16 x] w fun e w' => e = .returned (.bool true) ∧ Keeps (fun _ => False) w w' := by
  have HD := hide hd
  clear hd
  by_cases h3 : (300 : Int) < (s.size : Int)
  · go_enter Try.func5, Try.ntmps5
    go_wp2_with fail
    refine (awake20 _).mono ?_
    rintro e w1 ⟨rfl, k1⟩
    have K1 := hide k1
    clear k1
    go_wp2_with fail
    go_ret
    exact ⟨rfl, K1.out⟩
  · go_enter Try.func5, Try.ntmps5
    go_wp2_with fail
    refine (new_deck A1 n1 c1 zs _ w (Nat.le_refl _) HD.out hz (by omega)).mono ?_
    rintro e w1 ⟨rfl, d1, k1⟩
    have K1 := hide k1
    clear k1
    go_wp2_with fail
    refine (config_any _ w.heap.size w1 d1).mono ?_
    rintro e w2 ⟨c, l, G, b, ts, rfl, hm, hl, hsn, hG, bG, tl, tb, bt, hb, d2, k2⟩
    have K2 := hide (K1.out.step k2 (fun b hb e => by omega))
    have HM := hide hm
    obtain ⟨nl, hnl⟩ : ∃ nl, nl = l.length := ⟨_, rfl⟩
    rw [← hnl]
    have h1 := hm.fine.shards
    have BX := hide (Blk.new w2 28 #[.int .i64 c.length, .int .i64 c.lateness, .int .i64 c.windows, .int .i64 c.shards, .int .i64 c.spread, .int .i64 c.queue, .int .i64 c.mode, .int .i64 c.slots, .int .i64 c.exact_, .int .u64 c.promote, .int .i64 c.depth, .int .i64 c.width, .int .i64 c.top, .int .i64 c.key, .slice (some ⟨G, 0, none⟩) nl nl, .slice (some ⟨b, 0, none⟩) 16 16, .int .u64 c.seed])
    have kX := (Keeps.refl (fun _ => False) w2).alloc (.cells #[.int .i64 c.length, .int .i64 c.lateness, .int .i64 c.windows, .int .i64 c.shards, .int .i64 c.spread, .int .i64 c.queue, .int .i64 c.mode, .int .i64 c.slots, .int .i64 c.exact_, .int .u64 c.promote, .int .i64 c.depth, .int .i64 c.width, .int .i64 c.top, .int .i64 c.key, .slice (some ⟨G, 0, none⟩) nl nl, .slice (some ⟨b, 0, none⟩) 16 16, .int .u64 c.seed] 28)
    have RT := hide (show Rd (w2.alloc (.cells #[.int .i64 c.length, .int .i64 c.lateness, .int .i64 c.windows, .int .i64 c.shards, .int .i64 c.spread, .int .i64 c.queue, .int .i64 c.mode, .int .i64 c.slots, .int .i64 c.exact_, .int .u64 c.promote, .int .i64 c.depth, .int .i64 c.width, .int .i64 c.top, .int .i64 c.key, .slice (some ⟨G, 0, none⟩) nl nl, .slice (some ⟨b, 0, none⟩) 16 16, .int .u64 c.seed] 28)) w2.heap.size (some ⟨b, 0, none⟩) 1 16 (ts.map (.int .u64)) from (bt.rd (n := 16) (sz := 1) (by simp [tl])).kept kX (fun _ _ h => h))
    have K3 := hide (K2.out.trans kX)
    have hbX : b < w2.heap.size := bt.lt
    have hwX : w.heap.size < w2.heap.size := by have := d2.lt; omega
    clear hl hsn hG bG bt hb d2 k2 hm hnl K2 K1 d1 kX tl
    go_upto_region 4 with fail
    generalize w2.alloc _ = w3 at *
    generalize w2.heap.size = X at *
    have q4 : w3.cell? ⟨X, 4, none⟩ = some (.int .i64 c.spread) := BX.out.cell 4
    have f4 := BX.out.frozen 4
    go_upto_region 5 with fail
    trace "R5"
    obtain ⟨d, hd⟩ : ∃ d : Cfg, d = { c with spread := 1 } := ⟨_, rfl⟩
    have BX5 : Hid (Blk (w3.setCell ⟨X, 4, none⟩ (.int .i64 1)) X 28 #[.int .i64 d.length, .int .i64 d.lateness, .int .i64 d.windows, .int .i64 d.shards, .int .i64 d.spread, .int .i64 d.queue, .int .i64 d.mode, .int .i64 d.slots, .int .i64 d.exact_, .int .u64 d.promote, .int .i64 d.depth, .int .i64 d.width, .int .i64 d.top, .int .i64 d.key, .slice (some ⟨G, 0, none⟩) nl nl, .slice (some ⟨b, 0, none⟩) 16 16, .int .u64 d.seed]) := by rw [hd]; exact BX.out.set 4 _
    have kS : Keeps (· = X) w3 (w3.setCell ⟨X, 4, none⟩ (.int .i64 1)) := Keeps.setCell (S := (· = X)) (p := ⟨X, 4, none⟩) (Keeps.refl _ _) (.inl rfl) _
    have RT5 := hide (RT.out.kept kS (fun b hb => by omega))
    have K5 := hide (K3.out.step kS (fun b hb e => by omega))
    clear kS q4 f4 BX RT K3
    generalize w3.setCell ⟨X, 4, none⟩ (.int .i64 1) = w5 at *
    have R1 : Rtd d := by rw [hd]; exact HM.out.rtd 1 (by omega) (by omega)
    have hds : d.shards = c.shards := by rw [hd]
    have hdp : d.spread = 1 := by rw [hd]
    have HDD : Hid (homeOf d ts s = homeOf c ts s) := by show _ = _; rw [hd]; rfl
    obtain ⟨hv, hhv⟩ : ∃ hv, hv = homeOf d ts s := ⟨_, rfl⟩
    have hvb := home_bd _ R1 ts s
    have HRO := hide (fun W (hr : Rd W X (some ⟨b, 0, none⟩) 1 16 (ts.map (.int .u64))) => route_ok _ R1 (some ⟨G, 0, none⟩) (some ⟨b, 0, none⟩) nl nl 16 X W ts tb hr s hs x x0 (by omega))
    have HHO := hide (fun W (hr : Rd W X (some ⟨b, 0, none⟩) 1 16 (ts.map (.int .u64))) => home_ok _ R1 (some ⟨G, 0, none⟩) (some ⟨b, 0, none⟩) nl nl 16 X W ts tb hr s hs)
    rw [← hhv] at HRO HHO hvb
    have hro : routeOf d hv x = hv := by
      unfold routeOf
      rw [hdp]
      rw [Int.emod_one, Int.add_zero]
      exact Int.emod_eq_of_lt hvb.1 hvb.2
    rw [hro] at HRO
    have HHV := hide hhv
    have hwx : IntKind.i64.wrap x = x := IntWalk.i64_in _ (by omega)
    have h1d : 1 ≤ d.shards ∧ d.shards ≤ 8 := by omega
    have HDS := hide hds
    have HSD : Hid (d.seed = c.seed) := by show _ = _; rw [hd]
    clear hhv hro R1 hd hdp hds h1
    refine wp_region_held_drew (S := fun w' => Blk w' X 28 #[.int .i64 d.length, .int .i64 d.lateness, .int .i64 d.windows, .int .i64 d.shards, .int .i64 d.spread, .int .i64 d.queue, .int .i64 d.mode, .int .i64 d.slots, .int .i64 d.exact_, .int .u64 d.promote, .int .i64 d.depth, .int .i64 d.width, .int .i64 d.top, .int .i64 d.key, .slice (some ⟨G, 0, none⟩) nl nl, .slice (some ⟨b, 0, none⟩) 16 16, .int .u64 d.seed]) (by kernel_rfl) (BX5.out.drew) (fun hHeld => ?_)
    refine wpAnyH_take (i := 0) (v := _) rfl (by kernel_rfl) (by kernel_rfl) (by kernel_rfl) (fun _ _ _ h => h) (cfg_yields _ rfl (fun _ h => h) rfl (by rfl)) (by assumption) ?_
    simp only [Act.put, List.setIfInBounds_toArray, List.set_cons_zero, List.set_cons_succ]
    refine wpAnyH_take (i := 1) (v := ?_) rfl (by kernel_rfl) (by kernel_rfl) (by kernel_rfl) (fun _ _ _ h => h) (Or.inl ⟨by rfl, ?_⟩) (by assumption) ?_; rotate_left; focus (intro w hSw; (try dsimp only at hSw); go_simp; try (with_reducible rfl)); (try simp only [Act.put, List.setIfInBounds_toArray, List.set_cons_zero, List.set_cons_succ])
    refine wpAnyH_take (i := 2) (v := ?_) rfl (by kernel_rfl) (by kernel_rfl) (by kernel_rfl) (fun _ _ _ h => h) (Or.inl ⟨by rfl, ?_⟩) (by assumption) ?_; rotate_left; focus (intro w hSw; (try dsimp only at hSw); go_simp; try (with_reducible rfl)); (try simp only [Act.put, List.setIfInBounds_toArray, List.set_cons_zero, List.set_cons_succ])
    refine wpAnyH_take (i := 3) (v := ?_) rfl (by kernel_rfl) (by kernel_rfl) (by kernel_rfl) (fun _ _ _ h => h) (Or.inl ⟨by rfl, ?_⟩) (by assumption) ?_; rotate_left; focus (intro w hSw; (try dsimp only at hSw); go_simp; try (with_reducible rfl)); (try simp only [Act.put, List.setIfInBounds_toArray, List.set_cons_zero, List.set_cons_succ])
    refine wpAnyH_take (i := 5) (v := _) rfl (by kernel_rfl) (by kernel_rfl) (by kernel_rfl) (fun _ _ _ h => h) (cfg_yields _ rfl (fun _ h => h) rfl (by rfl)) (by assumption) ?_
    simp only [Act.put, List.setIfInBounds_toArray, List.set_cons_zero, List.set_cons_succ]
    refine wpAnyH_take (i := 6) (v := ?_) rfl (by kernel_rfl) (by kernel_rfl) (by kernel_rfl) (fun _ _ _ h => h) (Or.inl ⟨by rfl, ?_⟩) (by assumption) ?_; rotate_left; focus (intro w hSw; (try dsimp only at hSw); go_simp; try (with_reducible rfl)); (try simp only [Act.put, List.setIfInBounds_toArray, List.set_cons_zero, List.set_cons_succ])
    trace "TAKEN"
    refine wpAnyH_ready (rs := [4]) (by kernel_rfl) (by simp) ?_
    refine AllReadyH.cons rfl (fun K hK => ?_) AllReadyH.nil
    go_simp
    go_at_call 21
    refine (HRO.out _ RT5.out.drew).mono ?_
    rintro e w6 ⟨rfl, k6⟩
    have k6' : Keeps (fun _ => False) w5 w6 := ((Keeps.refl (fun _ => False) w5).drew).trans k6
    have RT6 := hide (RT5.out.kept k6' (fun _ _ h => h))
    have K6 := hide (K5.out.trans k6')
    have BX6 := hide (BX5.out.kept k6' (fun h => h))
    try go_wp2_with fail
    refine hK.out _ _ BX6.out (fun hHeld2 => ?_)
    clear hK K k6 k6' hHeld
    try simp only [Act.put, List.setIfInBounds_toArray, List.set_cons_zero, List.set_cons_succ]
    refine wpAnyH_ready (rs := [7]) (by kernel_rfl) (by simp) ?_
    refine AllReadyH.cons rfl (fun K hK => ?_) AllReadyH.nil
    go_simp
    go_at_call 16
    refine (HHO.out _ RT6.out).mono ?_
    rintro e w7 ⟨rfl, k7⟩
    have RT7 := hide (RT6.out.kept k7 (fun _ _ h => h))
    have K7 := hide (K6.out.trans k7)
    have BX7 := hide (BX6.out.kept k7 (fun h => h))
    try go_wp2_with fail
    refine hK.out _ _ BX7.out (fun hHeld3 => ?_)
    clear hK K k7 hHeld2
    try simp only [Act.put, List.setIfInBounds_toArray, List.set_cons_zero, List.set_cons_succ]
    refine wpAnyH_take (i := 8) (v := ?_) rfl (by kernel_rfl) (by kernel_rfl) (by kernel_rfl) (fun _ _ _ h => h) (Or.inl ⟨by rfl, ?_⟩) (by assumption) ?_; rotate_left; focus (intro w hSw; (try dsimp only at hSw); go_simp; try (with_reducible rfl)); (try simp only [Act.put, List.setIfInBounds_toArray, List.set_cons_zero, List.set_cons_succ])
    refine wpAnyH_done (by kernel_rfl) ?_ _
    clear hHeld3 HRO HHO RT6 K6 BX6 RT5 K5 BX5
    trace "R5 DONE"
    have q3 : w7.cell? ⟨X, 3, none⟩ = some (.int .i64 d.shards) := BX7.out.cell 3
    have q4 : w7.cell? ⟨X, 4, none⟩ = some (.int .i64 d.spread) := BX7.out.cell 4
    have f4 := BX7.out.frozen 4
    go_upto_region 8 with fail
    trace "R8"
    obtain ⟨d2, hd2⟩ : ∃ d2 : Cfg, d2 = { d with spread := d.shards } := ⟨_, rfl⟩
    have BX8 : Hid (Blk (w7.setCell ⟨X, 4, none⟩ (.int .i64 d.shards)) X 28 #[.int .i64 d2.length, .int .i64 d2.lateness, .int .i64 d2.windows, .int .i64 d2.shards, .int .i64 d2.spread, .int .i64 d2.queue, .int .i64 d2.mode, .int .i64 d2.slots, .int .i64 d2.exact_, .int .u64 d2.promote, .int .i64 d2.depth, .int .i64 d2.width, .int .i64 d2.top, .int .i64 d2.key, .slice (some ⟨G, 0, none⟩) nl nl, .slice (some ⟨b, 0, none⟩) 16 16, .int .u64 d2.seed]) := by rw [hd2]; exact BX7.out.set 4 _
    have kS : Keeps (· = X) w7 (w7.setCell ⟨X, 4, none⟩ (.int .i64 d.shards)) := Keeps.setCell (S := (· = X)) (p := ⟨X, 4, none⟩) (Keeps.refl _ _) (.inl rfl) _
    have RT8 := hide (RT7.out.kept kS (fun b hb => by omega))
    have K8 := hide (K7.out.step kS (fun b hb e => by omega))
    clear kS q3 q4 f4 BX7 RT7 K7
    generalize w7.setCell ⟨X, 4, none⟩ (.int .i64 d.shards) = w8 at *
    obtain ⟨sh, hsh⟩ : ∃ sh : Nat, d.shards = (sh : Int) := ⟨d.shards.toNat, by omega⟩
    have R2 : Rtd d2 := by rw [hd2]; exact ⟨h1d, ⟨h1d.1, by show d.shards ≤ d.shards; omega⟩, by show 0 ≤ d.seed ∧ d.seed < 18446744073709551616; have := HM.out.fine.seed; have h5 := HSD.out; omega⟩
    have hsh2 : d2.shards = (sh : Int) := by rw [hd2]; exact hsh
    have hst : d2.spread.toNat = sh := by rw [hd2]; show d.shards.toNat = sh; omega
    have hhv2 : homeOf d2 ts s = hv := by rw [HHV.out, hd2]; rfl
    have HSET := hide (fun W (hr : Rd W X (some ⟨b, 0, none⟩) 1 16 (ts.map (.int .u64))) => set_ok _ R2 (some ⟨G, 0, none⟩) (some ⟨b, 0, none⟩) nl nl 16 X W ts tb hr s hs)
    rw [hhv2, hst] at HSET
    have TH : Hid (∀ i, i < sh → there (setOf d2 hv sh) (i : Int) sh = true) := fun i hi => there_all d2 R2 hv hvb.1 sh hsh2 i hi
    have LL := hide (setOf_len d2 hv sh)
    have h1s : 1 ≤ sh ∧ sh ≤ 8 := by omega
    obtain ⟨L, hL⟩ : ∃ L, L = setOf d2 hv sh := ⟨_, rfl⟩
    rw [← hL] at HSET TH LL
    have HSH2 := hide hsh2
    clear hL hhv2 hst hsh2 R2 hd2 hsh h1d hvb
    go_wp2_with (refine cfg_ld _ rfl BX8.out rfl (by rfl) ?_; simp only [Act.put, List.setIfInBounds_toArray, List.set_cons_zero, List.set_cons_succ])
    trace "SET"
    refine (HSET.out _ RT8.out).mono ?_
    rintro e w9 ⟨A, cc, rfl, lc, cm, rl, k9⟩
    have K9 := hide (K8.out.trans k9)
    have q3 : w9.cell? ⟨X, 3, none⟩ = some (.int .i64 d2.shards) := (BX8.out.kept k9 (fun h => h)).cell 3
    rw [HSH2.out] at q3
    rw [LL.out] at lc rl ⊢
    obtain ⟨bb, off, rfl, hbb, hcc⟩ := rl.2 (by omega)
    have HCC : Hid (∀ q, q < sh → w9.cell? ⟨bb, off + q, none⟩ = some (.int .i64 (L.getD q 0))) := fun q hq => hcc q _ (by have := LL.out; simp [List.getD, show q < L.length by omega])
    clear k9 BX8 HSET RT8 K8 rl hcc
    go_wp2_with fail
    trace "LOOP"
    go_loopw [9, 10, 12] (fun iv _ _ wr => ∃ i : Nat, i ≤ sh ∧ iv = .int .i64 i ∧ wr = w9) (fun iv _ _ _ => sh - (intOf iv).toNat)
    case atStart => exact ⟨0, by omega, rfl, rfl⟩
    case round =>
      obtain ⟨i, hi, rfl, rfl⟩ := hrel
      by_cases hlt : i < sh
      · have hltI : (i : Int) < (sh : Int) := by omega
        go_wp2_with fail
        trace "INNER"
        go_loopw [10, 12, 44] (fun th _ kv wr' => ∃ k : Nat, k ≤ sh ∧ kv = .int .i64 k ∧ th = .bool (there L i k) ∧ wr' = wr) (fun _ _ kv _ => sh - (intOf kv).toNat)
        case atStart => exact ⟨0, by omega, rfl, rfl, rfl⟩
        case round =>
          obtain ⟨k, hk, rfl, rfl, rfl⟩ := hrel
          by_cases hkl : k < sh
          · have hc := HCC.out k hkl
            have hth := there_succ L i k (by have := LL.out; omega)
            obtain ⟨v, hv⟩ : ∃ v, v = L.getD k 0 := ⟨_, rfl⟩
            rw [← hv] at hc hth
            have HTH := hide hth
            have hkI : (k : Int) < (sh : Int) := by omega
            clear hv hth
            generalize there L (i : Int) k = t at *
            cases t
            · go_wp2_with fail
              all_goals
                trace "FALSE"
                go_roundw
                case rel => exact ⟨k + 1, by omega, by go_num, by rw [HTH.out]; simp, by trivial⟩
                case measure => simp [intOf]; omega
            · go_wp2_with fail
              trace "TRUE"
              go_roundw
              case rel => exact ⟨k + 1, by omega, by go_num, by rw [HTH.out]; simp, by trivial⟩
              case measure => simp [intOf]; omega
          · obtain rfl : k = sh := by omega
            rw [TH.out i hlt]
            go_wp2_with fail
            trace "NEXT"
            go_roundw
            case rel => exact ⟨i + 1, by omega, by go_num, by trivial⟩
            case measure => simp [intOf]; omega
      · obtain rfl : i = sh := by omega
        go_wp2_with fail
        trace "AWAKE"
        refine (awake20 _).mono ?_
        rintro e w10 ⟨rfl, k10⟩
        have K10 := hide (K9.out.trans k10)
        clear k10
        go_wp2_with fail
        go_ret
        exact ⟨rfl, K10.out⟩
theorem walk (w : World) (A1 : Option Addr) (n1 c1 : Nat) (z1 : List Int) (r1 : Rd w w.heap.size A1 1 n1 (z1.map (.int .i64))) (b1 : ∀ z ∈ z1, -9223372036854775808 ≤ z ∧ z < 9223372036854775808) (s1 : n1 * 8 ≤ 140737488351232) (l1 : n1 ≤ c1)
    (s : ByteArray) (ws : s.size ≤ maxLen) (hs : s.size ≤ 140737488351232) (x : Int) (x0 : 0 ≤ x) (x1 : x < 65536) :
    Calls Try.prog 5 #[.slice A1 n1 c1, .string s, .int .u16 x] w fun e w' => e = .returned (.bool true) ∧ Below w.heap.size w w' :=
  (main w A1 n1 c1 z1 r1 b1 (by omega) s hs x x0 x1).mono fun e w' ⟨he, hk⟩ => ⟨he, hk.done⟩
end routerWhole
end Go.Proofs.Ytgjlibecgkhocaa
