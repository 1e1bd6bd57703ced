/-
  SizingCheck: which configurations are valid, and the error of others; the walk, from what the four functions say of any configuration. No conditions beyond those of the statement.
-/
import Derived.Test.YtgjlibecgkhocaaMA
import Derived.Test.YtgjlibecgkhocaaGh
import Derived.Test.YtgjlibecgkhocaaSg
import Derived.Test.YtgjlibecgkhocaaLe
import Derived.Test.YtgjlibecgkhocaaCfg
set_option linter.unusedVariables false
set_option linter.unusedSimpArgs false
namespace Go.Proofs.Ytgjlibecgkhocaa
open Go.RowKit Cfp
namespace szc
theorem cfg_valid {c : Cfg} {l : List (Int × Int)} (h : Fine c) (hl : classesE l = 0) (hm : Room c l) : configE c l 16 = 0 := by
  obtain ⟨p, d, hp, hd, r1, r2, r3⟩ := hm
  have h1 := h.length
  have h2 := h.lateness
  have h3 := h.windows
  have h4 := h.shards
  have h5 := h.spread
  have h6 := h.queue
  have h7 := h.mode
  have h8 := h.slots
  have h9 := h.exact_
  have h10 := h.depth
  have h11 := h.width
  have h12 := h.top
  have h13 := h.key
  have k1 : clockB c = true := decide_eq_true ⟨h1.1, h1.2, h2.1, h2.2, h3.1, h3.2⟩
  have k2 : routeB c 16 = true := decide_eq_true ⟨h4.1, h4.2, h5.1, h5.2, rfl⟩
  have k3 : numB c = true := decide_eq_true ⟨h6.1, h6.2, by omega, h8.1, h8.2, h9.1, h9.2, h10.1, h10.2, h11.1, h11.2, h12.1, h12.2, h13.1, h13.2⟩
  have e : lastSize l = d.1 := by
    unfold lastSize
    rw [List.getLastD_eq_getLast?, List.getLast?_eq_getElem?, hp]
    simp [hd]
  unfold configE
  rw [if_neg (by simp [k1, k2, k3, hl]), if_neg (by rw [e]; unfold most; omega)]
/-- what the four functions say of any configuration -/
def FourAll : Prop := ∀ (c : Cfg) (l : List (Int × Int)) (C : Option Addr) (n k : Nat) (T : Option Addr) (q j B : Nat) (w : World), Wide l → (0 ≤ c.promote ∧ c.promote < 18446744073709551616) → (0 ≤ c.seed ∧ c.seed < 18446744073709551616) →
  Rd w B C 2 n (prs l) → B ≤ w.heap.size → n ≤ 1000 → Four w (Value.agg #[.int .i64 c.length, .int .i64 c.lateness, .int .i64 c.windows, .int .i64 c.shards, .int .i64 c.spread, .int .i64 c.queue, .int .i64 c.mode, .int .i64 c.slots, .int .i64 c.exact_, .int .u64 c.promote, .int .i64 c.depth, .int .i64 c.width, .int .i64 c.top, .int .i64 c.key, .slice C n k, .slice T q j, .int .u64 c.seed]) (configE c l q) (validE c l q)
set_option maxRecDepth 100000 in
set_option maxHeartbeats 3000000 in
theorem main (HA : FourAll) (w : World) (c0 : Cfg) (l0 : List (Int × Int)) (C0 : Option Addr) (n0 k0 : Nat) (T0 : Option Addr) (q0 j0 : Nat) (hp0 : 0 ≤ c0.promote ∧ c0.promote < 18446744073709551616) (hs0 : 0 ≤ c0.seed ∧ c0.seed < 18446744073709551616) (hw0 : Wide l0) (hr0 : Rd w w.heap.size C0 2 n0 (prs l0))
    (A1 : Option Addr) (n1 c1 : Nat) (zs0 : List Int) (hd : Rd w w.heap.size A1 1 n1 (zs0.map (.int .i64))) (hz : ∀ z ∈ zs0, -9223372036854775808 ≤ z ∧ z < 9223372036854775808) (hn1 : n1 ≤ 17592186043904)
    (at_ : Int) (nn : Int) (hnn : wf64 nn) (again : Int) (m : Int) (hm : wf64 m) :
    Calls Try.prog 6 #[Value.agg #[.int .i64 c0.length, .int .i64 c0.lateness, .int .i64 c0.windows, .int .i64 c0.shards, .int .i64 c0.spread, .int .i64 c0.queue, .int .i64 c0.mode, .int .i64 c0.slots, .int .i64 c0.exact_, .int .u64 c0.promote, .int .i64 c0.depth, .int .i64 c0.width, .int .i64 c0.top, .int .i64 c0.key, .slice C0 n0 k0, .slice T0 q0 j0, .int .u64 c0.seed], .slice A1 n1 c1, .int .i64 at_, .int .i64 nn, .int .i64 again, .int .i64 m] w fun e w' => e = .returned (.bool true) ∧ Keeps (fun _ => False) w w' := by
  have HD := hide (hd.kept ((Keeps.refl (fun _ => False) w).alloc (.cells #[.int .i64 c0.length, .int .i64 c0.lateness, .int .i64 c0.windows, .int .i64 c0.shards, .int .i64 c0.spread, .int .i64 c0.queue, .int .i64 c0.mode, .int .i64 c0.slots, .int .i64 c0.exact_, .int .u64 c0.promote, .int .i64 c0.depth, .int .i64 c0.width, .int .i64 c0.top, .int .i64 c0.key, .slice C0 n0 k0, .slice T0 q0 j0, .int .u64 c0.seed] 28)) (fun _ _ h => h))
  have HR0 := hide (hr0.kept ((Keeps.refl (fun _ => False) w).alloc (.cells #[.int .i64 c0.length, .int .i64 c0.lateness, .int .i64 c0.windows, .int .i64 c0.shards, .int .i64 c0.spread, .int .i64 c0.queue, .int .i64 c0.mode, .int .i64 c0.slots, .int .i64 c0.exact_, .int .u64 c0.promote, .int .i64 c0.depth, .int .i64 c0.width, .int .i64 c0.top, .int .i64 c0.key, .slice C0 n0 k0, .slice T0 q0 j0, .int .u64 c0.seed] 28)) (fun _ _ h => h))
  have B0 := hide (Blk.new w 28 #[.int .i64 c0.length, .int .i64 c0.lateness, .int .i64 c0.windows, .int .i64 c0.shards, .int .i64 c0.spread, .int .i64 c0.queue, .int .i64 c0.mode, .int .i64 c0.slots, .int .i64 c0.exact_, .int .u64 c0.promote, .int .i64 c0.depth, .int .i64 c0.width, .int .i64 c0.top, .int .i64 c0.key, .slice C0 n0 k0, .slice T0 q0 j0, .int .u64 c0.seed])
  have K0 := hide ((Keeps.refl (fun _ => False) w).alloc (.cells #[.int .i64 c0.length, .int .i64 c0.lateness, .int .i64 c0.windows, .int .i64 c0.shards, .int .i64 c0.spread, .int .i64 c0.queue, .int .i64 c0.mode, .int .i64 c0.slots, .int .i64 c0.exact_, .int .u64 c0.promote, .int .i64 c0.depth, .int .i64 c0.width, .int .i64 c0.top, .int .i64 c0.key, .slice C0 n0 k0, .slice T0 q0 j0, .int .u64 c0.seed] 28))
  have HS := hide (⟨hp0, hs0, hw0⟩ : _ ∧ _ ∧ _)
  have HNN := hide hnn
  have HM := hide hm
  have HZ := hide hz
  have hwX : w.heap.size < (w.alloc (.cells #[.int .i64 c0.length, .int .i64 c0.lateness, .int .i64 c0.windows, .int .i64 c0.shards, .int .i64 c0.spread, .int .i64 c0.queue, .int .i64 c0.mode, .int .i64 c0.slots, .int .i64 c0.exact_, .int .u64 c0.promote, .int .i64 c0.depth, .int .i64 c0.width, .int .i64 c0.top, .int .i64 c0.key, .slice C0 n0 k0, .slice T0 q0 j0, .int .u64 c0.seed] 28)).heap.size := by simp
  clear hd hr0 hp0 hs0 hw0 hnn hm hz
  go_enter Try.func6, Try.ntmps6
  go_upto_region 1 with fail
  generalize w.alloc _ = wA at *
  generalize hX0 : w.heap.size = X0 at *
  have f14 : wA.cell? ⟨X0, 14, none⟩ = some (.slice C0 n0 k0) := B0.out.cell 14
  have f15 : wA.cell? ⟨X0, 15, none⟩ = some (.slice T0 q0 j0) := B0.out.cell 15
  rcases d1 : decide ((12 : Int) < (n0 : Int)) with _ | _
  rotate_left
  · go_wp2_with fail
    refine (awake28 _).mono ?_
    rintro e w1 ⟨rfl, k1⟩
    have K1 := hide (K0.out.trans k1)
    clear k1
    go_wp2_with fail
    go_ret
    exact ⟨rfl, K1.out⟩
  rcases d2 : decide ((40 : Int) < (q0 : Int)) with _ | _
  rotate_left
  · go_wp2_with fail
    refine (awake28 _).mono ?_
    rintro e w1 ⟨rfl, k1⟩
    have K1 := hide (K0.out.trans k1)
    clear k1
    go_wp2_with fail
    go_ret
    exact ⟨rfl, K1.out⟩
  have hn12 : n0 ≤ 12 := by simp at d1; omega
  trace "MADE"
  go_wp2_with fail
  refine (new_deck A1 n1 c1 zs0 X0 wA (by omega) HD.out HZ.out (by omega)).mono ?_
  rintro e w1 ⟨rfl, d1', k1⟩
  have K1 := hide (K0.out.trans k1)
  have B01 := hide (B0.out.kept k1 (fun h => h))
  have R01 := hide (HR0.out.kept k1 (fun _ _ h => h))
  clear k1 B0 K0 HR0 HD f14 f15 d1 d2
  go_wp2_with fail
  refine (config_any _ wA.heap.size w1 d1').mono ?_
  rintro e w2 ⟨c, l, G, b, ts, rfl, hmild, hl, hsn, hG, bG, tl, tb, bt, hb, d2, k2⟩
  have hX0A : X0 < wA.heap.size := by omega
  have K2 := hide (K1.out.step k2 (fun b hb e => by omega))
  have B02 := hide (B01.out.kept k2 (by omega))
  have R02 := hide (R01.out.kept k2 (fun b hb e => by omega))
  have hcnt := made_counts c hmild.fine l hsn
  have hcls := made_ok l hl hcnt
  have hroom := made_room c hmild.width hmild.fine.key.2 l hl
  have hn8 : l.length ≤ 8 ∧ 1 ≤ l.length := by obtain ⟨p, d, h1, _, _, h2⟩ := made_last l hl; omega
  have hcv := cfg_valid hmild.fine hcls hroom
  have hvv : validE c l 16 = 0 := by
    unfold validE
    rw [if_pos hcv, full_none _ _ (fun i h1 h2 => by
      have := congrArg (fun m => m[i]?) hsn
      simp [h1, h2] at this
      omega)]
    rfl
  have hwide : Wide l := by
    have h5 := classes_bd l hcls
    intro x hx
    have h1 := hcnt x hx
    refine ⟨?_, by omega, by omega⟩
    have h2 : x.1 ∈ l.map Prod.fst := List.mem_map_of_mem hx
    rcases hl with h | h <;> rw [h] at h2 <;> simp at h2 <;> omega
  have HSC := hide (⟨hmild.fine.promote, hmild.fine.seed, hwide⟩ : _ ∧ _ ∧ _)
  obtain ⟨nl, hnl⟩ : ∃ nl, nl = l.length := ⟨_, rfl⟩
  rw [← hnl] at hn8 ⊢
  have HNl := hide hnl
  have HVV := hide hvv
  have RC0 : Rd w2 w2.heap.size (some ⟨G, 0, none⟩) 2 nl (prs l) := by rw [← clv_prs]; exact bG.rd (n := nl) (sz := 2) (by rw [clv_len, hnl])
  have BX := hide (Blk.new w2 28 #[.int .i64 c.length, .int .i64 c.lateness, .int .i64 c.windows, .int .i64 c.shards, .int .i64 c.spread, .int .i64 c.queue, .int .i64 c.mode, .int .i64 c.slots, .int .i64 c.exact_, .int .u64 c.promote, .int .i64 c.depth, .int .i64 c.width, .int .i64 c.top, .int .i64 c.key, .slice (some ⟨G, 0, none⟩) nl nl, .slice (some ⟨b, 0, none⟩) 16 16, .int .u64 c.seed])
  have kX := (Keeps.refl (fun _ => False) w2).alloc (.cells #[.int .i64 c.length, .int .i64 c.lateness, .int .i64 c.windows, .int .i64 c.shards, .int .i64 c.spread, .int .i64 c.queue, .int .i64 c.mode, .int .i64 c.slots, .int .i64 c.exact_, .int .u64 c.promote, .int .i64 c.depth, .int .i64 c.width, .int .i64 c.top, .int .i64 c.key, .slice (some ⟨G, 0, none⟩) nl nl, .slice (some ⟨b, 0, none⟩) 16 16, .int .u64 c.seed] 28)
  have RC := hide (RC0.kept kX (fun _ _ h => h))
  have K3 := hide (K2.out.trans kX)
  have B03 := hide (B02.out.kept kX (fun h => h))
  have R03 := hide (R02.out.kept kX (fun _ _ h => h))
  clear hl hsn hG bG bt hb d2 k2 hmild hnl K2 K1 d1' kX tl tb hcnt hcls hroom hcv hvv hwide RC0 B01 B02 R01 R02
  go_upto_region 4 with (refine cfg_st _ _ rfl (by rfl) (by rfl) (by rfl) (by rfl) ?_; simp only [Act.put, List.setIfInBounds_toArray, List.set_cons_zero, List.set_cons_succ])
  generalize w2.alloc _ = w3 at *
  generalize w2.heap.size = X1 at *
  have hX13 : X1 < w3.heap.size := BX.out.lt
  have hX03 : X0 < w3.heap.size := B03.out.lt
  trace "SP1"
  go_wp2_with (refine cfg_ld _ rfl BX.out rfl (by rfl) ?_; simp only [Act.put, List.setIfInBounds_toArray, List.set_cons_zero, List.set_cons_succ])
  refine (spoilt_any _ c l HSC.out.2.2 _ _ nl nl 16 16 X1 RC.out (by omega) (by omega) (by omega) (by omega) (by omega) at_ nn HNN.out).mono ?_
  rintro e w4 ⟨cx, lx, Cx, kx, Tx, qx, jx, rfl, px, sx, wx, ox, ⟨hqx, hjx⟩, k4⟩
  have BY := hide (Blk.new w4 28 #[.int .i64 cx.length, .int .i64 cx.lateness, .int .i64 cx.windows, .int .i64 cx.shards, .int .i64 cx.spread, .int .i64 cx.queue, .int .i64 cx.mode, .int .i64 cx.slots, .int .i64 cx.exact_, .int .u64 cx.promote, .int .i64 cx.depth, .int .i64 cx.width, .int .i64 cx.top, .int .i64 cx.key, .slice Cx nl kx, .slice Tx qx jx, .int .u64 cx.seed])
  have kX := (Keeps.refl (fun _ => False) w4).alloc (.cells #[.int .i64 cx.length, .int .i64 cx.lateness, .int .i64 cx.windows, .int .i64 cx.shards, .int .i64 cx.spread, .int .i64 cx.queue, .int .i64 cx.mode, .int .i64 cx.slots, .int .i64 cx.exact_, .int .u64 cx.promote, .int .i64 cx.depth, .int .i64 cx.width, .int .i64 cx.top, .int .i64 cx.key, .slice Cx nl kx, .slice Tx qx jx, .int .u64 cx.seed] 28)
  have kk := k4.trans kX
  have BX5 := hide (BX.out.kept kk (fun h => h))
  have B05 := hide (B03.out.kept kk (fun h => h))
  have R05 := hide (R03.out.kept kk (fun _ _ h => h))
  have RC5 := hide (RC.out.kept kk (fun _ _ h => h))
  have K5 := hide (K3.out.trans kk)
  have RX5 := hide ((ox.rd (by omega)).kept kX (fun _ _ h => h))
  have HSX := hide (⟨by rw [px]; exact HSC.out.1, by rw [sx]; exact HSC.out.2.1, wx⟩ : (0 ≤ cx.promote ∧ cx.promote < 18446744073709551616) ∧ (0 ≤ cx.seed ∧ cx.seed < 18446744073709551616) ∧ Wide lx)
  have hsz5 := kk.size
  clear kk kX k4 ox px sx wx BX B03 R03 RC K3
  go_upto_region 5 with (refine cfg_st _ _ rfl (by rfl) (by rfl) (by rfl) (by rfl) ?_; simp only [Act.put, List.setIfInBounds_toArray, List.set_cons_zero, List.set_cons_succ])
  generalize w4.alloc _ = w5 at *
  generalize w4.heap.size = X2 at *
  have hX25 : X2 < w5.heap.size := BY.out.lt
  trace "SP2"
  go_wp2_with (refine cfg_ld _ rfl BY.out rfl (by rfl) ?_; simp only [Act.put, List.setIfInBounds_toArray, List.set_cons_zero, List.set_cons_succ])
  refine (spoilt_any _ cx lx HSX.out.2.2 _ _ nl kx qx jx X2 RX5.out (by omega) (by omega) (by omega) hqx hjx again m HM.out).mono ?_
  rintro e w6 ⟨cy, ly, Cy, ky, Ty, qy, jy, rfl, py, sy, wy, oy, ⟨hqy, hjy⟩, k6⟩
  have BZ := hide (Blk.new w6 28 #[.int .i64 cy.length, .int .i64 cy.lateness, .int .i64 cy.windows, .int .i64 cy.shards, .int .i64 cy.spread, .int .i64 cy.queue, .int .i64 cy.mode, .int .i64 cy.slots, .int .i64 cy.exact_, .int .u64 cy.promote, .int .i64 cy.depth, .int .i64 cy.width, .int .i64 cy.top, .int .i64 cy.key, .slice Cy nl ky, .slice Ty qy jy, .int .u64 cy.seed])
  have kX := (Keeps.refl (fun _ => False) w6).alloc (.cells #[.int .i64 cy.length, .int .i64 cy.lateness, .int .i64 cy.windows, .int .i64 cy.shards, .int .i64 cy.spread, .int .i64 cy.queue, .int .i64 cy.mode, .int .i64 cy.slots, .int .i64 cy.exact_, .int .u64 cy.promote, .int .i64 cy.depth, .int .i64 cy.width, .int .i64 cy.top, .int .i64 cy.key, .slice Cy nl ky, .slice Ty qy jy, .int .u64 cy.seed] 28)
  have kk := k6.trans kX
  have BX7 := hide (BX5.out.kept kk (fun h => h))
  have BY7 := hide (BY.out.kept kk (fun h => h))
  have B07 := hide (B05.out.kept kk (fun h => h))
  have R07 := hide (R05.out.kept kk (fun _ _ h => h))
  have RC7 := hide (RC5.out.kept kk (fun _ _ h => h))
  have RX7 := hide (RX5.out.kept kk (fun _ _ h => h))
  have K7 := hide (K5.out.trans kk)
  have RY7 := hide ((oy.rd (by omega)).kept kX (fun _ _ h => h))
  have HSY := hide (⟨by rw [py]; exact HSX.out.1, by rw [sy]; exact HSX.out.2.1, wy⟩ : (0 ≤ cy.promote ∧ cy.promote < 18446744073709551616) ∧ (0 ≤ cy.seed ∧ cy.seed < 18446744073709551616) ∧ Wide ly)
  have hsz7 := kk.size
  clear kk kX k6 oy py sy wy BX5 B05 R05 RC5 RX5 K5 BY
  go_upto_region 6 with (refine cfg_st _ _ rfl (by rfl) (by rfl) (by rfl) (by rfl) ?_; simp only [Act.put, List.setIfInBounds_toArray, List.set_cons_zero, List.set_cons_succ])
  generalize w6.alloc _ = w7 at *
  generalize w6.heap.size = X3 at *
  have hX37 : X3 < w7.heap.size := BZ.out.lt
  trace "SP3"
  go_wp2_with (refine cfg_ld _ rfl BX7.out rfl (by rfl) ?_; simp only [Act.put, List.setIfInBounds_toArray, List.set_cons_zero, List.set_cons_succ])
  refine (spoilt_any _ c l HSC.out.2.2 _ _ nl nl 16 16 X1 RC7.out (by omega) (by omega) (by omega) (by omega) (by omega) at_ _ (wf_i64 (wf_bits .and .i64 nn 31))).mono ?_
  rintro e w8 ⟨cz, lz, Cz, kz, Tz, qz, jz, rfl, pz, sz, wz, oz, ⟨hqz, hjz⟩, k8⟩
  have BU := hide (Blk.new w8 28 #[.int .i64 cz.length, .int .i64 cz.lateness, .int .i64 cz.windows, .int .i64 cz.shards, .int .i64 cz.spread, .int .i64 cz.queue, .int .i64 cz.mode, .int .i64 cz.slots, .int .i64 cz.exact_, .int .u64 cz.promote, .int .i64 cz.depth, .int .i64 cz.width, .int .i64 cz.top, .int .i64 cz.key, .slice Cz nl kz, .slice Tz qz jz, .int .u64 cz.seed])
  have kX := (Keeps.refl (fun _ => False) w8).alloc (.cells #[.int .i64 cz.length, .int .i64 cz.lateness, .int .i64 cz.windows, .int .i64 cz.shards, .int .i64 cz.spread, .int .i64 cz.queue, .int .i64 cz.mode, .int .i64 cz.slots, .int .i64 cz.exact_, .int .u64 cz.promote, .int .i64 cz.depth, .int .i64 cz.width, .int .i64 cz.top, .int .i64 cz.key, .slice Cz nl kz, .slice Tz qz jz, .int .u64 cz.seed] 28)
  have kk := k8.trans kX
  have BX9 := hide (BX7.out.kept kk (fun h => h))
  have BY9 := hide (BY7.out.kept kk (fun h => h))
  have BZ9 := hide (BZ.out.kept kk (fun h => h))
  have B09 := hide (B07.out.kept kk (fun h => h))
  have R09 := hide (R07.out.kept kk (fun _ _ h => h))
  have RC9 := hide (RC7.out.kept kk (fun _ _ h => h))
  have RX9 := hide (RX7.out.kept kk (fun _ _ h => h))
  have RY9 := hide (RY7.out.kept kk (fun _ _ h => h))
  have K9 := hide (K7.out.trans kk)
  have RZ9 := hide ((oz.rd (by omega)).kept kX (fun _ _ h => h))
  have HSZ := hide (⟨by rw [pz]; exact HSC.out.1, by rw [sz]; exact HSC.out.2.1, wz⟩ : (0 ≤ cz.promote ∧ cz.promote < 18446744073709551616) ∧ (0 ≤ cz.seed ∧ cz.seed < 18446744073709551616) ∧ Wide lz)
  have hsz9 := kk.size
  clear kk kX k8 oz pz sz wz BX7 B07 R07 RC7 RX7 RY7 K7 BY7 BZ
  go_upto_region 7 with (refine cfg_st _ _ rfl (by rfl) (by rfl) (by rfl) (by rfl) ?_; simp only [Act.put, List.setIfInBounds_toArray, List.set_cons_zero, List.set_cons_succ])
  generalize w8.alloc _ = w9 at *
  generalize w8.heap.size = X4 at *
  have hX49 : X4 < w9.heap.size := BU.out.lt
  trace "BUILD"
  obtain ⟨xs, hxs⟩ : ∃ xs : List Itm, xs = [⟨c0, l0, C0, n0, k0, T0, q0, j0⟩, ⟨c, l, some ⟨G, 0, none⟩, nl, nl, some ⟨b, 0, none⟩, 16, 16⟩, ⟨cx, lx, Cx, nl, kx, Tx, qx, jx⟩, ⟨cy, ly, Cy, nl, ky, Ty, qy, jy⟩, ⟨cz, lz, Cz, nl, kz, Tz, qz, jz⟩] := ⟨_, rfl⟩
  have hF9 : ∀ x ∈ xs, ∃ ce ve, Four w9 (Value.agg #[.int .i64 x.c.length, .int .i64 x.c.lateness, .int .i64 x.c.windows, .int .i64 x.c.shards, .int .i64 x.c.spread, .int .i64 x.c.queue, .int .i64 x.c.mode, .int .i64 x.c.slots, .int .i64 x.c.exact_, .int .u64 x.c.promote, .int .i64 x.c.depth, .int .i64 x.c.width, .int .i64 x.c.top, .int .i64 x.c.key, .slice x.C x.n x.k, .slice x.T x.q x.j, .int .u64 x.c.seed]) ce ve := by
    intro x hx
    rw [hxs] at hx
    simp only [List.mem_cons, List.not_mem_nil, or_false] at hx
    rcases hx with rfl | rfl | rfl | rfl | rfl
    · exact ⟨_, _, HA _ _ _ _ _ _ _ _ _ w9 HS.out.2.2 HS.out.1 HS.out.2.1 R09.out (by omega) (by show n0 ≤ 1000; omega)⟩
    · exact ⟨_, _, HA _ _ _ _ _ _ _ _ _ w9 HSC.out.2.2 HSC.out.1 HSC.out.2.1 RC9.out (by omega) (by show nl ≤ 1000; omega)⟩
    · exact ⟨_, _, HA _ _ _ _ _ _ _ _ _ w9 HSX.out.2.2 HSX.out.1 HSX.out.2.1 RX9.out (by omega) (by show nl ≤ 1000; omega)⟩
    · exact ⟨_, _, HA _ _ _ _ _ _ _ _ _ w9 HSY.out.2.2 HSY.out.1 HSY.out.2.1 RY9.out (by omega) (by show nl ≤ 1000; omega)⟩
    · exact ⟨_, _, HA _ _ _ _ _ _ _ _ _ w9 HSZ.out.2.2 HSZ.out.1 HSZ.out.2.1 RZ9.out (by omega) (by show nl ≤ 1000; omega)⟩
  have HF4 := hide (HA c l (some ⟨G, 0, none⟩) nl nl (some ⟨b, 0, none⟩) 16 16 X1 w9 HSC.out.2.2 HSC.out.1 HSC.out.2.1 RC9.out (by omega) (by omega))
  have HF9 := hide hF9
  have hxl : xs.length = 5 := by rw [hxs]; rfl
  have BG := hide (Blk.new w9 28 (xs.flatMap Itm.cells).toArray)
  have kG := hide ((Keeps.refl (fun _ => False) w9).alloc (.cells (xs.flatMap Itm.cells).toArray 28))
  have HXS := hide (show w9.alloc (.cells (xs.flatMap Itm.cells).toArray 28) = w9.alloc (.cells #[.int .i64 c0.length, .int .i64 c0.lateness, .int .i64 c0.windows, .int .i64 c0.shards, .int .i64 c0.spread, .int .i64 c0.queue, .int .i64 c0.mode, .int .i64 c0.slots, .int .i64 c0.exact_, .int .u64 c0.promote, .int .i64 c0.depth, .int .i64 c0.width, .int .i64 c0.top, .int .i64 c0.key, .slice C0 n0 k0, .slice T0 q0 j0, .int .u64 c0.seed, .int .i64 c.length, .int .i64 c.lateness, .int .i64 c.windows, .int .i64 c.shards, .int .i64 c.spread, .int .i64 c.queue, .int .i64 c.mode, .int .i64 c.slots, .int .i64 c.exact_, .int .u64 c.promote, .int .i64 c.depth, .int .i64 c.width, .int .i64 c.top, .int .i64 c.key, .slice (some ⟨G, 0, none⟩) nl nl, .slice (some ⟨b, 0, none⟩) 16 16, .int .u64 c.seed, .int .i64 cx.length, .int .i64 cx.lateness, .int .i64 cx.windows, .int .i64 cx.shards, .int .i64 cx.spread, .int .i64 cx.queue, .int .i64 cx.mode, .int .i64 cx.slots, .int .i64 cx.exact_, .int .u64 cx.promote, .int .i64 cx.depth, .int .i64 cx.width, .int .i64 cx.top, .int .i64 cx.key, .slice Cx nl kx, .slice Tx qx jx, .int .u64 cx.seed, .int .i64 cy.length, .int .i64 cy.lateness, .int .i64 cy.windows, .int .i64 cy.shards, .int .i64 cy.spread, .int .i64 cy.queue, .int .i64 cy.mode, .int .i64 cy.slots, .int .i64 cy.exact_, .int .u64 cy.promote, .int .i64 cy.depth, .int .i64 cy.width, .int .i64 cy.top, .int .i64 cy.key, .slice Cy nl ky, .slice Ty qy jy, .int .u64 cy.seed, .int .i64 cz.length, .int .i64 cz.lateness, .int .i64 cz.windows, .int .i64 cz.shards, .int .i64 cz.spread, .int .i64 cz.queue, .int .i64 cz.mode, .int .i64 cz.slots, .int .i64 cz.exact_, .int .u64 cz.promote, .int .i64 cz.depth, .int .i64 cz.width, .int .i64 cz.top, .int .i64 cz.key, .slice Cz nl kz, .slice Tz qz jz, .int .u64 cz.seed] 28) by rw [hxs]; rfl)
  clear hF9 hxs HA HS HSX HSY HSZ R09 RX9 RY9 RZ9
  go_wp2_with (first | (refine cfg_ld _ rfl B09.out rfl (by rfl) ?_; simp only [Act.put, List.setIfInBounds_toArray, List.set_cons_zero, List.set_cons_succ]) | (refine cfg_ld _ rfl BX9.out rfl (by rfl) ?_; simp only [Act.put, List.setIfInBounds_toArray, List.set_cons_zero, List.set_cons_succ]) | (refine cfg_ld _ rfl BY9.out rfl (by rfl) ?_; simp only [Act.put, List.setIfInBounds_toArray, List.set_cons_zero, List.set_cons_succ]) | (refine cfg_ld _ rfl BZ9.out rfl (by rfl) ?_; simp only [Act.put, List.setIfInBounds_toArray, List.set_cons_zero, List.set_cons_succ]) | (refine cfg_ld _ rfl BU.out rfl (by rfl) ?_; simp only [Act.put, List.setIfInBounds_toArray, List.set_cons_zero, List.set_cons_succ]))
  trace "BUILT"
  have h1 := HXS.out
  have hF10 := fun x hx => let ⟨ce, ve, h⟩ := HF9.out x hx; (⟨ce, ve, h.mono kG.out⟩ : ∃ ce ve, Four _ (Value.agg #[.int .i64 x.c.length, .int .i64 x.c.lateness, .int .i64 x.c.windows, .int .i64 x.c.shards, .int .i64 x.c.spread, .int .i64 x.c.queue, .int .i64 x.c.mode, .int .i64 x.c.slots, .int .i64 x.c.exact_, .int .u64 x.c.promote, .int .i64 x.c.depth, .int .i64 x.c.width, .int .i64 x.c.top, .int .i64 x.c.key, .slice x.C x.n x.k, .slice x.T x.q x.j, .int .u64 x.c.seed]) ce ve)
  have K10 := hide (K9.out.trans kG.out)
  have BX10 := hide (BX9.out.kept kG.out (fun h => h))
  have HF5 := hide (HF4.out.mono kG.out)
  rw [← h1]
  clear h1 HXS HF9 HF4 kG K9 B09 BX9 BY9 BZ9 BU RC9
  generalize w9.alloc _ = w10 at *
  generalize w9.heap.size = X5 at *
  trace "LOOP"
  refine Code.wp_mono ?_ (loop xs 5 hxl (by omega) X5 w10 hF10 BG.out _ _ _ _ _ _ _ _ _ _ _ _ _ _ _ _ _ _ _ _ _ _ _ _ _ _ _ _ _ _ _ _ _ _ _ _ _ _ _ _ _ _ _ _ _ _ _ _ _ _ _ _ _ _ _ _ _ _ _ _ _ _ _ _ _ _ _ _ _ _ _ _ _)
  intro e a' w'' hex
  cases e <;> (first | exact hex.elim | skip)
  obtain ⟨rfl, ⟨u12, u18, u53, u54, u55, u56, u57, u58, u59, u60, u61, u62, u63, u64, u65, u66, u67, u68, u69, rfl⟩, kx⟩ := hex
  have K11 := hide (K10.out.trans kx)
  have BX11 := hide (BX10.out.kept kx (fun h => h))
  have HFV := hide ((HF5.out.mono kx).2.2.1)
  rw [HVV.out] at HFV
  clear kx K10 BX10 HF5 BG hF10 HVV
  dsimp only
  go_wp2_with (refine cfg_ld _ rfl BX11.out rfl (by rfl) ?_; simp only [Act.put, List.setIfInBounds_toArray, List.set_cons_zero, List.set_cons_succ])
  trace "VALID"
  refine (HFV.out _ (Keeps.refl _ _)).mono ?_
  rintro e w12 ⟨rfl, k12⟩
  have K12 := hide (K11.out.trans k12)
  clear k12
  go_wp2_with fail
  trace "AWAKE"
  refine (awake28 _).mono ?_
  rintro e w13 ⟨rfl, k13⟩
  have K13 := hide (K12.out.trans k13)
  clear k13
  go_wp2_with fail
  go_ret
  exact ⟨rfl, K13.out⟩
end szc
end Go.Proofs.Ytgjlibecgkhocaa
