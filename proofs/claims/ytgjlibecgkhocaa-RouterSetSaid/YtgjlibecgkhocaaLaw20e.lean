/-
  RouterSet: the home, the set and the route of any key, also for configurations that are not valid; the walk. No conditions beyond those of the statement.
-/
import Derived.Test.YtgjlibecgkhocaaLaw20d
import Derived.Test.YtgjlibecgkhocaaCfg
import Derived.Test.YtgjlibecgkhocaaLaw20a
import Derived.Test.YtgjlibecgkhocaaMem2
import Derived.Test.YtgjlibecgkhocaaRz
import Derived.Deep.CutBlock
import Derived.Laws.BitsLemmas
set_option linter.unusedVariables false
set_option linter.unusedSimpArgs false
namespace Go.Proofs.Ytgjlibecgkhocaa
open Go.RowKit Cfp

namespace routerSet
/-- the second configuration: with a change, or not -/
def Two (c : Cfg) (G nl b X1 X2 : Nat) (ts : List Int) (w4 wx : World) : Prop :=
  ∃ (d : Cfg) (T' : Option Addr) (q' j' : Nat), d.seed = c.seed ∧ Blk wx X2 28 #[.int .i64 d.length, .int .i64 d.lateness, .int .i64 d.windows, .int .i64 d.shards, .int .i64 d.spread, .int .i64 d.queue, .int .i64 d.mode, .int .i64 d.slots, .int .i64 d.exact_, .int .u64 d.promote, .int .i64 d.depth, .int .i64 d.width, .int .i64 d.top, .int .i64 d.key, .slice (some ⟨G, 0, none⟩) nl nl, .slice T' q' j', .int .u64 d.seed] ∧ (q' = 16 → Rd wx X1 T' 1 16 (ts.map (.int .u64))) ∧ Keeps (· = X2) w4 wx

set_option maxRecDepth 100000 in
set_option maxHeartbeats 3000000 in
theorem main (w : World) (A1 : Option Addr) (n1 c1 : Nat) (zs : List Int) (hd : Rd w w.heap.size A1 1 n1 (zs.map (.int .i64))) (hz : ∀ z ∈ zs, -9223372036854775808 ≤ z ∧ z < 9223372036854775808) (hn1 : n1 ≤ 17592186043904)
    (s : ByteArray) (hs : s.size ≤ 140737488351232) (av : Int) (nn : Int) (x : Int) (x0 : -9223372036854775808 ≤ x) (x1 : x < 9223372036854775808) :
    Calls Try.prog 3 #[.slice A1 n1 c1, .string s, .int .i64 av, .int .i64 nn, .int .i64 x] w fun e w' => e = .returned (.bool true) ∧ Keeps (fun _ => False) w w' := by
  have HD := hide hd
  clear hd
  by_cases h3 : (300 : Int) < (s.size : Int)
  · go_enter Try.func3, Try.ntmps3
    go_wp2_with fail
    refine (awake20 _).mono ?_
    rintro e w1 ⟨rfl, k1⟩
    have K1 := hide k1
    clear k1
    go_wp2_with fail
    go_ret
    exact ⟨rfl, K1.out⟩
  · go_enter Try.func3, Try.ntmps3
    go_wp2_with fail
    refine (new_deck A1 n1 c1 zs _ w (Nat.le_refl _) HD.out hz (by omega)).mono ?_
    rintro e w1 ⟨rfl, d1, k1⟩
    have K1 := hide k1
    clear k1
    go_wp2_with fail
    refine (config_any _ w.heap.size w1 d1).mono ?_
    rintro e w2 ⟨c, l, G, b, ts, rfl, hm, hl, hsn, hG, bG, tl, tb, bt, hb, d2, k2⟩
    have K2 := hide (K1.out.step k2 (fun b hb e => by omega))
    have HM := hide hm
    obtain ⟨nl, hnl⟩ : ∃ nl, nl = l.length := ⟨_, rfl⟩
    rw [← hnl]
    have h1 := hm.fine.shards
    have BX := hide (Blk.new w2 28 #[.int .i64 c.length, .int .i64 c.lateness, .int .i64 c.windows, .int .i64 c.shards, .int .i64 c.spread, .int .i64 c.queue, .int .i64 c.mode, .int .i64 c.slots, .int .i64 c.exact_, .int .u64 c.promote, .int .i64 c.depth, .int .i64 c.width, .int .i64 c.top, .int .i64 c.key, .slice (some ⟨G, 0, none⟩) nl nl, .slice (some ⟨b, 0, none⟩) 16 16, .int .u64 c.seed])
    have kX := (Keeps.refl (fun _ => False) w2).alloc (.cells #[.int .i64 c.length, .int .i64 c.lateness, .int .i64 c.windows, .int .i64 c.shards, .int .i64 c.spread, .int .i64 c.queue, .int .i64 c.mode, .int .i64 c.slots, .int .i64 c.exact_, .int .u64 c.promote, .int .i64 c.depth, .int .i64 c.width, .int .i64 c.top, .int .i64 c.key, .slice (some ⟨G, 0, none⟩) nl nl, .slice (some ⟨b, 0, none⟩) 16 16, .int .u64 c.seed] 28)
    have RT := hide (show Rd (w2.alloc (.cells #[.int .i64 c.length, .int .i64 c.lateness, .int .i64 c.windows, .int .i64 c.shards, .int .i64 c.spread, .int .i64 c.queue, .int .i64 c.mode, .int .i64 c.slots, .int .i64 c.exact_, .int .u64 c.promote, .int .i64 c.depth, .int .i64 c.width, .int .i64 c.top, .int .i64 c.key, .slice (some ⟨G, 0, none⟩) nl nl, .slice (some ⟨b, 0, none⟩) 16 16, .int .u64 c.seed] 28)) w2.heap.size (some ⟨b, 0, none⟩) 1 16 (ts.map (.int .u64)) from (bt.rd (n := 16) (sz := 1) (by simp [tl])).kept kX (fun _ _ h => h))
    have K3 := hide (K2.out.trans kX)
    have hbX : b < w2.heap.size := bt.lt
    have hwX : w.heap.size < w2.heap.size := by have := d2.lt; omega
    clear hl hsn hG bG bt hb d2 k2 hm hnl K2 K1 d1 kX tl
    go_upto_region 4 with fail
    generalize w2.alloc _ = w3 at *
    generalize w2.heap.size = X1 at *
    have BY := hide (Blk.new w3 28 #[.int .i64 c.length, .int .i64 c.lateness, .int .i64 c.windows, .int .i64 c.shards, .int .i64 c.spread, .int .i64 c.queue, .int .i64 c.mode, .int .i64 c.slots, .int .i64 c.exact_, .int .u64 c.promote, .int .i64 c.depth, .int .i64 c.width, .int .i64 c.top, .int .i64 c.key, .slice (some ⟨G, 0, none⟩) nl nl, .slice (some ⟨b, 0, none⟩) 16 16, .int .u64 c.seed])
    have kY := (Keeps.refl (fun _ => False) w3).alloc (.cells #[.int .i64 c.length, .int .i64 c.lateness, .int .i64 c.windows, .int .i64 c.shards, .int .i64 c.spread, .int .i64 c.queue, .int .i64 c.mode, .int .i64 c.slots, .int .i64 c.exact_, .int .u64 c.promote, .int .i64 c.depth, .int .i64 c.width, .int .i64 c.top, .int .i64 c.key, .slice (some ⟨G, 0, none⟩) nl nl, .slice (some ⟨b, 0, none⟩) 16 16, .int .u64 c.seed] 28)
    have BX4 := hide (BX.out.kept kY (fun h => h))
    have RT4 := hide (RT.out.kept kY (fun _ _ h => h))
    have K4 := hide (K3.out.trans kY)
    have hX12 : X1 < w3.heap.size := BX.out.lt
    clear kY RT K3
    go_upto_block 0 with (refine cfg_ld _ rfl BX.out rfl (by rfl) ?_; simp only [Act.put, List.setIfInBounds_toArray, List.set_cons_zero, List.set_cons_succ])
    trace "B0"
    generalize w3.alloc _ = w4 at *
    generalize w3.heap.size = X2 at *
    clear BX
    have g3 : w4.cell? ⟨X2, 3, none⟩ = some (.int .i64 c.shards) := BY.out.cell 3
    have g4 : w4.cell? ⟨X2, 4, none⟩ = some (.int .i64 c.spread) := BY.out.cell 4
    have g15 : w4.cell? ⟨X2, 15, none⟩ = some (.slice (some ⟨b, 0, none⟩) 16 16) := BY.out.cell 15
    have f3 := BY.out.frozen 3
    have f4 := BY.out.frozen 4
    have f15 := BY.out.frozen 15
    have kS : ∀ (i : Nat) (v : Value), Keeps (· = X2) w4 (w4.setCell ⟨X2, i, none⟩ v) := fun i v => Keeps.setCell (S := (· = X2)) (p := ⟨X2, i, none⟩) (Keeps.refl _ _) (.inl rfl) _
    have HKS := hide kS
    clear kS
    generalize bits .and .i64 av 3 = bv
    go_cut [] from 25 to 40 (Two c G nl b X1 X2 ts w4)
    case first =>
      have e15 := i64_and15 nn
      have n0 : 0 ≤ nn % 16 := Int.emod_nonneg _ (by omega)
      have n1' : nn % 16 < 16 := Int.emod_lt_of_pos _ (by omega)
      obtain ⟨nv, hnv⟩ : ∃ nv, nv = nn % 16 := ⟨_, rfl⟩
      rw [← hnv] at e15 n0 n1'
      obtain ⟨P1, s1, r1, _⟩ := sub_hi elemU (some ⟨b, 0, none⟩) 16 16 .i64 nv n0 (by omega) (by omega)
      clear hnv r1
      by_cases h0 : bv = 0
      · have e0 : (bv == 0) = true := by simp [h0]
        clear h0
        go_wp2_with fail
        trace "C0"
        go_meet
        exact ⟨{ c with shards := nn }, _, 16, 16, rfl, BY.out.set 3 _, fun _ => RT4.out.kept (HKS.out 3 _) (fun b hb => by omega), HKS.out 3 _⟩
      have e0 : (bv == 0) = false := by simp [h0]
      clear h0
      by_cases h1 : bv = 1
      · have e1 : (bv == 1) = true := by simp [h1]
        clear h1
        go_wp2_with fail
        trace "C1"
        go_meet
        exact ⟨{ c with spread := nn }, _, 16, 16, rfl, BY.out.set 4 _, fun _ => RT4.out.kept (HKS.out 4 _) (fun b hb => by omega), HKS.out 4 _⟩
      have e1 : (bv == 1) = false := by simp [h1]
      clear h1
      by_cases h2 : bv = 2
      · have e2 : (bv == 2) = true := by simp [h2]
        clear h2
        go_wp2_with fail
        trace "C2"
        go_meet
        exact ⟨c, P1, nv.toNat, 16, rfl, BY.out.set 15 _, fun h => by omega, HKS.out 15 _⟩
      have e2 : (bv == 2) = false := by simp [h2]
      clear h2
      go_wp2_with fail
      trace "C3"
      go_meet
      exact ⟨c, _, 16, 16, rfl, BY.out, fun _ => RT4.out, Keeps.refl _ _⟩
    case rest =>
    obtain ⟨d, T', q', j', hds, by5, rt5, k5⟩ := hcut
    clear g3 g4 g15 f3 f4 f15 BY HKS
    have HDS := hide hds
    have BX5 := hide (BX4.out.kept k5 (by omega))
    have RT5 := hide (RT4.out.kept k5 (fun b hb => by omega))
    have K5 := hide (K4.out.step k5 (fun b hb e => by omega))
    have BY5 := hide by5
    have HRT := hide rt5
    clear hds by5 rt5 k5 BX4 RT4 K4
    trace "R12"
    go_wp2_with (first | (refine cfg_ld _ rfl BX5.out rfl (by rfl) ?_; simp only [Act.put, List.setIfInBounds_toArray, List.set_cons_zero, List.set_cons_succ]) | (refine cfg_ld _ rfl BY5.out rfl (by rfl) ?_; simp only [Act.put, List.setIfInBounds_toArray, List.set_cons_zero, List.set_cons_succ]))
    trace "LOOP"
    have BG : Hid (Blk (wc.alloc (.cells ((#[.int .i64 c.length, .int .i64 c.lateness, .int .i64 c.windows, .int .i64 c.shards, .int .i64 c.spread, .int .i64 c.queue, .int .i64 c.mode, .int .i64 c.slots, .int .i64 c.exact_, .int .u64 c.promote, .int .i64 c.depth, .int .i64 c.width, .int .i64 c.top, .int .i64 c.key, .slice (some ⟨G, 0, none⟩) nl nl, .slice (some ⟨b, 0, none⟩) 16 16, .int .u64 c.seed] : Array Value).toList ++ (#[.int .i64 d.length, .int .i64 d.lateness, .int .i64 d.windows, .int .i64 d.shards, .int .i64 d.spread, .int .i64 d.queue, .int .i64 d.mode, .int .i64 d.slots, .int .i64 d.exact_, .int .u64 d.promote, .int .i64 d.depth, .int .i64 d.width, .int .i64 d.top, .int .i64 d.key, .slice (some ⟨G, 0, none⟩) nl nl, .slice T' q' j', .int .u64 d.seed] : Array Value).toList).toArray 28)) wc.heap.size 28 ((#[.int .i64 c.length, .int .i64 c.lateness, .int .i64 c.windows, .int .i64 c.shards, .int .i64 c.spread, .int .i64 c.queue, .int .i64 c.mode, .int .i64 c.slots, .int .i64 c.exact_, .int .u64 c.promote, .int .i64 c.depth, .int .i64 c.width, .int .i64 c.top, .int .i64 c.key, .slice (some ⟨G, 0, none⟩) nl nl, .slice (some ⟨b, 0, none⟩) 16 16, .int .u64 c.seed] : Array Value).toList ++ (#[.int .i64 d.length, .int .i64 d.lateness, .int .i64 d.windows, .int .i64 d.shards, .int .i64 d.spread, .int .i64 d.queue, .int .i64 d.mode, .int .i64 d.slots, .int .i64 d.exact_, .int .u64 d.promote, .int .i64 d.depth, .int .i64 d.width, .int .i64 d.top, .int .i64 d.key, .slice (some ⟨G, 0, none⟩) nl nl, .slice T' q' j', .int .u64 d.seed] : Array Value).toList).toArray) := Blk.new _ _ _
    have kG := (Keeps.refl (fun _ => False) wc).alloc (.cells ((#[.int .i64 c.length, .int .i64 c.lateness, .int .i64 c.windows, .int .i64 c.shards, .int .i64 c.spread, .int .i64 c.queue, .int .i64 c.mode, .int .i64 c.slots, .int .i64 c.exact_, .int .u64 c.promote, .int .i64 c.depth, .int .i64 c.width, .int .i64 c.top, .int .i64 c.key, .slice (some ⟨G, 0, none⟩) nl nl, .slice (some ⟨b, 0, none⟩) 16 16, .int .u64 c.seed] : Array Value).toList ++ (#[.int .i64 d.length, .int .i64 d.lateness, .int .i64 d.windows, .int .i64 d.shards, .int .i64 d.spread, .int .i64 d.queue, .int .i64 d.mode, .int .i64 d.slots, .int .i64 d.exact_, .int .u64 d.promote, .int .i64 d.depth, .int .i64 d.width, .int .i64 d.top, .int .i64 d.key, .slice (some ⟨G, 0, none⟩) nl nl, .slice T' q' j', .int .u64 d.seed] : Array Value).toList).toArray 28)
    have hsdc := HM.out.fine.seed
    have hsdd : 0 ≤ d.seed ∧ d.seed < 18446744073709551616 := by rw [HDS.out]; exact hsdc
    obtain ⟨ev1, hv1, L1, rv1, hL1, hR1⟩ := routing_any c (some ⟨G, 0, none⟩) (some ⟨b, 0, none⟩) nl nl 16 16 X1 _ ts tb (fun _ => RT5.out.kept kG (fun _ _ h => h)) hsdc s hs
    obtain ⟨ev2, hv2, L2, rv2, hL2, hR2⟩ := routing_any d (some ⟨G, 0, none⟩) T' nl nl q' j' X1 _ ts tb (fun h => (HRT.out h).kept kG (fun _ _ h => h)) hsdd s hs
    have HR1 := hide hR1
    have HR2 := hide hR2
    have K6 := hide (K5.out.trans kG)
    clear hR1 hR2 kG BX5 BY5 RT5 HRT K5
    generalize hw6 : wc.alloc (.cells ((#[.int .i64 c.length, .int .i64 c.lateness, .int .i64 c.windows, .int .i64 c.shards, .int .i64 c.spread, .int .i64 c.queue, .int .i64 c.mode, .int .i64 c.slots, .int .i64 c.exact_, .int .u64 c.promote, .int .i64 c.depth, .int .i64 c.width, .int .i64 c.top, .int .i64 c.key, .slice (some ⟨G, 0, none⟩) nl nl, .slice (some ⟨b, 0, none⟩) 16 16, .int .u64 c.seed] : Array Value).toList ++ (#[.int .i64 d.length, .int .i64 d.lateness, .int .i64 d.windows, .int .i64 d.shards, .int .i64 d.spread, .int .i64 d.queue, .int .i64 d.mode, .int .i64 d.slots, .int .i64 d.exact_, .int .u64 d.promote, .int .i64 d.depth, .int .i64 d.width, .int .i64 d.top, .int .i64 d.key, .slice (some ⟨G, 0, none⟩) nl nl, .slice T' q' j', .int .u64 d.seed] : Array Value).toList).toArray 28) = w6 at *
    have hw6' : wc.alloc _ = w6 := hw6
    clear hw6
    change Code.wp _ _ _ _ (wc.alloc (.cells ((#[.int .i64 c.length, .int .i64 c.lateness, .int .i64 c.windows, .int .i64 c.shards, .int .i64 c.spread, .int .i64 c.queue, .int .i64 c.mode, .int .i64 c.slots, .int .i64 c.exact_, .int .u64 c.promote, .int .i64 c.depth, .int .i64 c.width, .int .i64 c.top, .int .i64 c.key, .slice (some ⟨G, 0, none⟩) nl nl, .slice (some ⟨b, 0, none⟩) 16 16, .int .u64 c.seed] : Array Value).toList ++ (#[.int .i64 d.length, .int .i64 d.lateness, .int .i64 d.windows, .int .i64 d.shards, .int .i64 d.spread, .int .i64 d.queue, .int .i64 d.mode, .int .i64 d.slots, .int .i64 d.exact_, .int .u64 d.promote, .int .i64 d.depth, .int .i64 d.width, .int .i64 d.top, .int .i64 d.key, .slice (some ⟨G, 0, none⟩) nl nl, .slice T' q' j', .int .u64 d.seed] : Array Value).toList).toArray 28))
    rw [hw6']
    clear hw6'
    generalize wc.heap.size = G6 at *
    refine Code.wp_mono ?_ (set_loop c d G nl b G6 T' q' j' w6 s x x0 x1 _ _ _ _ _ _ _ _ hL1 hL2 HR1 HR2 BG _ _ _ _ _ _ _ _ _ _ _ _ _ _ _ _ _ _ _ _ _ _ _ _ _ _ _ _ _ _ _ _ _ _ _ _ _ _ _ _ _ _ _ _ _ _ _ _ _ _ _ _ _ _ _ _ _ _ _ _ _ _ _ _ _ _ _ _ _ _ _ _ _ _ _ _ _ _ _ _ _ _ _ _ _ _ _ _ _ _ _ _ _ _)
    intro e a' w'' hex
    cases e <;> (first | exact hex.elim | skip)
    obtain ⟨rfl, ⟨v10, v14, v45, v46, v47, v48, v49, v50, v51, v52, v53, v54, v55, v56, v57, v58, v59, v60, v61, v62, v63, v64, v65, v66, v67, v68, v69, v70, v71, v72, v73, v74, v75, v76, v77, v78, v79, v80, v81, v82, v83, v84, v85, v86, v87, v88, v89, v90, v91, v92, v93, v94, v95, v96, v97, rfl⟩, kx⟩ := hex
    have KF := hide (K6.out.trans kx)
    clear kx
    dsimp only
    go_wp2_with fail
    trace "AWAKE"
    refine (awake20 _).mono ?_
    rintro e w10 ⟨rfl, k10⟩
    have K10 := hide (KF.out.trans k10)
    clear k10
    go_wp2_with fail
    go_ret
    exact ⟨rfl, K10.out⟩
theorem walk (w : World) (A1 : Option Addr) (n1 c1 : Nat) (z1 : List Int) (r1 : Rd w w.heap.size A1 1 n1 (z1.map (.int .i64))) (b1 : ∀ z ∈ z1, -9223372036854775808 ≤ z ∧ z < 9223372036854775808) (s1 : n1 * 8 ≤ 140737488351232) (l1 : n1 ≤ c1)
    (s : ByteArray) (ws : s.size ≤ maxLen) (hs : s.size ≤ 140737488351232) (av : Int) (av0 : -9223372036854775808 ≤ av) (av1 : av < 9223372036854775808) (nn : Int) (nn0 : -9223372036854775808 ≤ nn) (nn1 : nn < 9223372036854775808) (x : Int) (x0 : -9223372036854775808 ≤ x) (x1 : x < 9223372036854775808) :
    Calls Try.prog 3 #[.slice A1 n1 c1, .string s, .int .i64 av, .int .i64 nn, .int .i64 x] w fun e w' => e = .returned (.bool true) ∧ Below w.heap.size w w' :=
  (main w A1 n1 c1 z1 r1 b1 (by omega) s hs av nn x x0 x1).mono fun e w' ⟨he, hk⟩ => ⟨he, hk.done⟩
end routerSet
end Go.Proofs.Ytgjlibecgkhocaa
