/-
  SizingDemand: how many slots of each class are needed, or the error; the walk. No conditions beyond those of the statement.
-/
import Derived.Test.YtgjlibecgkhocaaMA
import Derived.Test.YtgjlibecgkhocaaSg
import Derived.Test.YtgjlibecgkhocaaLe
import Derived.Test.YtgjlibecgkhocaaCfg
import Derived.Test.YtgjlibecgkhocaaGg
set_option linter.unusedVariables false
set_option linter.unusedSimpArgs false
namespace Go.Proofs.Ytgjlibecgkhocaa
open Go.RowKit Cfp
namespace szc
theorem demC_of {w : World} {n : Nat} {c : Cfg} {l : List (Int × Int)} {q : Nat} (hl : l.length = n) (hn : n ≤ 1000) {e : Ending} {w' : World} (h : DemandA w n c l q e w') : DemC w (if configE c l q = 0 then demand0 c l else []) (configE c l q) e w' := by
  rcases h with ⟨h0, g, rfl, hg, nu, k⟩ | ⟨h0, rfl, k⟩
  · rw [if_pos h0, h0]
    exact ⟨_, n, n, rfl, hn, Blk.rd (n := n) (sz := 1) nu (by simp [demand0_len, hl]), k⟩
  · rw [if_neg h0]
    exact ⟨none, 0, 0, rfl, by omega, Rd.zero rfl, k⟩
theorem dem_any (c : Cfg) (l : List (Int × Int)) (C : Option Addr) (n k : Nat) (T : Option Addr) (q j B : Nat) (w : World) (hw : Wide l) (hp : 0 ≤ c.promote ∧ c.promote < 18446744073709551616) (hs : 0 ≤ c.seed ∧ c.seed < 18446744073709551616)
    (hr : Rd w B C 2 n (prs l)) (hB : B ≤ w.heap.size) (hn : n ≤ 1000) : ∃ L ev tv, Dem4 w (Value.agg #[.int .i64 c.length, .int .i64 c.lateness, .int .i64 c.windows, .int .i64 c.shards, .int .i64 c.spread, .int .i64 c.queue, .int .i64 c.mode, .int .i64 c.slots, .int .i64 c.exact_, .int .u64 c.promote, .int .i64 c.depth, .int .i64 c.width, .int .i64 c.top, .int .i64 c.key, .slice C n k, .slice T q j, .int .u64 c.seed]) L ev tv := by
  have hl : l.length = n := by have := hr.1; rw [prs_len] at this; omega
  exact ⟨_, _, _, fun W kW => (sdemand_any c C T n k q j W l hw hp hs B (hr.kept kW (fun _ _ h => h)) (Nat.le_trans hB kW.size) hn).mono fun e w' h => demC_of hl hn h,
   fun W kW => (rdemand_any c C T n k q j W l hw hp hs B (hr.kept kW (fun _ _ h => h)) (Nat.le_trans hB kW.size) hn).mono fun e w' h => demC_of hl hn h,
   fun W kW => stracked_any c C T n k q j W l hw hp hs B (hr.kept kW (fun _ _ h => h)) (Nat.le_trans hB kW.size) hn,
   fun W kW => rtracked_any c C T n k q j W l hw hp hs B (hr.kept kW (fun _ _ h => h)) (Nat.le_trans hB kW.size) hn⟩
set_option maxRecDepth 100000 in
set_option maxHeartbeats 3000000 in
theorem main2 (w : World) (A1 : Option Addr) (n1 c1 : Nat) (zs0 : List Int) (hd : Rd w w.heap.size A1 1 n1 (zs0.map (.int .i64))) (hz : ∀ z ∈ zs0, -9223372036854775808 ≤ z ∧ z < 9223372036854775808) (hn1 : n1 ≤ 17592186043904)
    (at_ : Int) (nn : Int) (hnn : wf64 nn) (A4 : Option Addr) (n4 c4 : Nat) (z4 : List Int) (hr4 : Rd w w.heap.size A4 1 n4 (z4.map (.int .u8))) (hz4 : ∀ z ∈ z4, 0 ≤ z ∧ z < 256) :
    Calls Try.prog 7 #[.slice A1 n1 c1, .int .i64 at_, .int .i64 nn, .slice A4 n4 c4] w fun e w' => e = .returned (.bool true) ∧ Keeps (fun _ => False) w w' := by
  have HD := hide hd
  have HR := hide hr4
  have HNN := hide hnn
  have HZ4 := hide hz4
  clear hd hr4 hnn hz4
  go_enter Try.func7, Try.ntmps7
  go_wp2_with fail
  refine (new_deck A1 n1 c1 zs0 _ w (Nat.le_refl _) HD.out hz (by omega)).mono ?_
  rintro e w1 ⟨rfl, d1, k1⟩
  have K1 := hide k1
  have R1 := hide (HR.out.kept k1 (fun _ _ h => h))
  clear k1
  go_wp2_with fail
  refine (config_any _ w.heap.size w1 d1).mono ?_
  rintro e w2 ⟨c, l, G, b, ts, rfl, hmild, hl, hsn, hG, bG, tl, tb, bt, hb, d2, k2⟩
  have K2 := hide (K1.out.step k2 (fun b hb e => by omega))
  have R2 := hide (R1.out.kept k2 (fun b hb e => by omega))
  have hcnt := made_counts c hmild.fine l hsn
  have hn8 : l.length ≤ 8 ∧ 1 ≤ l.length := by obtain ⟨p, d, h1, _, _, h2⟩ := made_last l hl; omega
  have hwide : Wide l := by
    intro x hx
    have h1 := hcnt x hx
    refine ⟨?_, by omega, by omega⟩
    have h2 : x.1 ∈ l.map Prod.fst := List.mem_map_of_mem hx
    rcases hl with h | h <;> rw [h] at h2 <;> simp at h2 <;> omega
  have HSC := hide (⟨hmild.fine.promote, hmild.fine.seed, hwide⟩ : _ ∧ _ ∧ _)
  obtain ⟨nl, hnl⟩ : ∃ nl, nl = l.length := ⟨_, rfl⟩
  rw [← hnl] at hn8 ⊢
  have hw2 : w.heap.size < w2.heap.size := by have := d2.lt; omega
  have RC0 : Rd w2 w2.heap.size (some ⟨G, 0, none⟩) 2 nl (prs l) := by rw [← clv_prs]; exact bG.rd (n := nl) (sz := 2) (by rw [clv_len, hnl])
  have BX := hide (Blk.new w2 28 #[.int .i64 c.length, .int .i64 c.lateness, .int .i64 c.windows, .int .i64 c.shards, .int .i64 c.spread, .int .i64 c.queue, .int .i64 c.mode, .int .i64 c.slots, .int .i64 c.exact_, .int .u64 c.promote, .int .i64 c.depth, .int .i64 c.width, .int .i64 c.top, .int .i64 c.key, .slice (some ⟨G, 0, none⟩) nl nl, .slice (some ⟨b, 0, none⟩) 16 16, .int .u64 c.seed])
  have kX := (Keeps.refl (fun _ => False) w2).alloc (.cells #[.int .i64 c.length, .int .i64 c.lateness, .int .i64 c.windows, .int .i64 c.shards, .int .i64 c.spread, .int .i64 c.queue, .int .i64 c.mode, .int .i64 c.slots, .int .i64 c.exact_, .int .u64 c.promote, .int .i64 c.depth, .int .i64 c.width, .int .i64 c.top, .int .i64 c.key, .slice (some ⟨G, 0, none⟩) nl nl, .slice (some ⟨b, 0, none⟩) 16 16, .int .u64 c.seed] 28)
  have RC := hide (RC0.kept kX (fun _ _ h => h))
  have K3 := hide (K2.out.trans kX)
  have R3 := hide (R2.out.kept kX (fun _ _ h => h))
  clear hl hsn hG bG bt hb d2 k2 hmild hnl K2 K1 d1 kX tl tb hcnt hwide RC0 R1 R2 HR HD hz
  go_upto_region 2 with (refine cfg_st _ _ rfl (by rfl) (by rfl) (by rfl) (by rfl) ?_; simp only [Act.put, List.setIfInBounds_toArray, List.set_cons_zero, List.set_cons_succ])
  generalize w2.alloc _ = w3 at *
  generalize w2.heap.size = X1 at *
  have hX13 : X1 < w3.heap.size := BX.out.lt
  trace "R2"
  have BY := hide (Blk.new w3 28 #[.int .i64 c.length, .int .i64 c.lateness, .int .i64 c.windows, .int .i64 c.shards, .int .i64 c.spread, .int .i64 c.queue, .int .i64 c.mode, .int .i64 c.slots, .int .i64 c.exact_, .int .u64 c.promote, .int .i64 c.depth, .int .i64 c.width, .int .i64 c.top, .int .i64 c.key, .slice (some ⟨G, 0, none⟩) nl nl, .slice (some ⟨b, 0, none⟩) 16 16, .int .u64 c.seed])
  have kY := (Keeps.refl (fun _ => False) w3).alloc (.cells #[.int .i64 c.length, .int .i64 c.lateness, .int .i64 c.windows, .int .i64 c.shards, .int .i64 c.spread, .int .i64 c.queue, .int .i64 c.mode, .int .i64 c.slots, .int .i64 c.exact_, .int .u64 c.promote, .int .i64 c.depth, .int .i64 c.width, .int .i64 c.top, .int .i64 c.key, .slice (some ⟨G, 0, none⟩) nl nl, .slice (some ⟨b, 0, none⟩) 16 16, .int .u64 c.seed] 28)
  have BX4 := hide (BX.out.kept kY (fun h => h))
  have RC4 := hide (RC.out.kept kY (fun _ _ h => h))
  have R4 := hide (R3.out.kept kY (fun _ _ h => h))
  have K4 := hide (K3.out.trans kY)
  go_upto_region 3 with (first | (refine cfg_ld _ rfl BX.out rfl (by rfl) ?_; simp only [Act.put, List.setIfInBounds_toArray, List.set_cons_zero, List.set_cons_succ]) | (refine cfg_st _ _ rfl (by rfl) (by rfl) (by rfl) (by rfl) ?_; simp only [Act.put, List.setIfInBounds_toArray, List.set_cons_zero, List.set_cons_succ]))
  clear kY BX RC R3 K3
  generalize w3.alloc _ = w4 at *
  generalize w3.heap.size = X2 at *
  have hX24 : X2 < w4.heap.size := BY.out.lt
  have q14 : w4.cell? ⟨X2, 14, none⟩ = some (.slice (some ⟨G, 0, none⟩) nl nl) := BY.out.cell 14
  have f14 := BY.out.frozen 14
  have kS : Keeps (· = X2) w4 (w4.setCell ⟨X2, 14, none⟩ (.slice none 0 0)) := Keeps.setCell (S := (· = X2)) (p := ⟨X2, 14, none⟩) (Keeps.refl _ _) (.inl rfl) _
  have BY5 : Hid (Blk (w4.setCell ⟨X2, 14, none⟩ (.slice none 0 0)) X2 28 #[.int .i64 c.length, .int .i64 c.lateness, .int .i64 c.windows, .int .i64 c.shards, .int .i64 c.spread, .int .i64 c.queue, .int .i64 c.mode, .int .i64 c.slots, .int .i64 c.exact_, .int .u64 c.promote, .int .i64 c.depth, .int .i64 c.width, .int .i64 c.top, .int .i64 c.key, .slice none 0 0, .slice (some ⟨b, 0, none⟩) 16 16, .int .u64 c.seed]) := hide (BY.out.set 14 _)
  have BX5 := hide (BX4.out.kept kS (by omega))
  have RC5 := hide (RC4.out.kept kS (fun b hb e => by omega))
  have R5 := hide (R4.out.kept kS (fun b hb e => by omega))
  have K5 := hide (K4.out.step kS (fun b hb e => by omega))
  go_upto_region 5 with fail
  clear kS BX4 RC4 R4 K4 BY q14 f14
  generalize w4.setCell _ _ = w5 at *
  trace "R5"
  go_wp2_with fail
  trace "LOOP1"
  refine Code.wp_mono ?_ (loop1 c (some ⟨b, 0, none⟩) 16 16 A4 n4 c4 _ X2 z4 w5 R5.out (by omega) HZ4.out BY5.out _ _ _ _ _ _ _ _ _ _ _ _ _ _ _ _ _ _ _ _ _ _ _ _ _ _ _ _ _ _ _ _ _ _ _ _ _ _ _ _ _ _ _ _ _ _ _ _ _ _ _ _ _ _ _ _ _ _ _ _ _ _ _ _ _ _ _ _ _ _ _ _ _ _ _ _ _ _ _ _ _ _ _ _ _ _ _ _ _ _ _ _ _ _ _ _ _ _)
  intro e a' w6 hex
  cases e <;> (first | exact hex.elim | skip)
  obtain ⟨rfl, s, i, lb, A, cp, hi6, ⟨⟨hs0, hs1⟩, hlb, own, blk, kk⟩, ⟨u12, u24, u25, u26, u27, u28, u29, u30, u31, u32, u33, u34, u35, u36, u37, u38, u39, u40, u41, u42, u43, u44, u45, u46, u47, u48, rfl⟩⟩ := hex
  have BX6 := hide (BX5.out.kept kk (by omega))
  have RC6 := hide (RC5.out.kept kk (fun b hb e => by omega))
  have hw5 : w.heap.size < w5.heap.size := by have := BX5.out.lt; omega
  have K6 := hide (K5.out.step kk (fun b hb e => by omega))
  have OW := hide own
  have BL := hide blk
  have HLB := hide hlb
  have h56 := kk.size
  have hX25 : X2 < w5.heap.size := BY5.out.lt
  clear own blk kk hlb BX5 RC5 R5 K5 BY5 HZ4
  dsimp only
  have hs2 : 0 ≤ s + 256 ∧ s + 256 ≤ 2048 := by omega
  obtain ⟨s', hs'⟩ : ∃ s', s' = s + 256 := ⟨_, rfl⟩
  rw [← hs'] at hs2
  have w1' : IntKind.i64.wrap (s + 256) = s' := by rw [hs']; exact IntWalk.i64_in _ (by omega)
  have HS' := hide hs'
  clear hs'
  have kA := (Keeps.refl (fun _ => False) w6).alloc (.cells #[.int .i64 s', .int .i64 5] 46)
  have HOA := hide (OW.out.kept kA (fun _ _ h => h))
  have HRA := hide (show Rd (w6.alloc (.cells #[.int .i64 s', .int .i64 5] 46)) (w6.alloc (.cells #[.int .i64 s', .int .i64 5] 46)).heap.size (some ⟨w6.heap.size, 0, none⟩) 2 1 [.int .i64 s', .int .i64 5] from (Blk.new w6 46 #[.int .i64 s', .int .i64 5]).rd (n := 1) (sz := 2) rfl)
  have HBA := hide (BL.out.kept kA (fun h => h))
  have HXA := hide (BX6.out.kept kA (fun h => h))
  have HCA := hide (RC6.out.kept kA (fun _ _ h => h))
  have HKA := hide (K6.out.trans kA)
  have q14 : w6.cell? ⟨X2, 14, none⟩ = some (.slice A i cp) := BL.out.cell 14
  have hX26 := BL.out.lt
  go_upto_region 11 with (at_builtin; (refine wpList_app _ elemCk rfl (.tmp 50) (.tmp 54) rfl w5.heap.size (prs lb) rfl HOA.out _ (m := 1) [.int .i64 s', .int .i64 5] rfl HRA.out (by simp [Value.oneCell']) (by simp only [maxLen]; omega) (by omega) (by simp; omega) ?_); intro A7 c7 w7 o7 k7 _; rw [prs_snoc lb (s', 5)] at o7; have O7 := hide o7; have hX27 : ∀ b, inB A b → w5.heap.size ≤ b := (fun b hb => (HOA.out.inB hb).1); have B7 := hide (HBA.out.kept k7 (fun h => by have := hX27 _ h; omega)); have X7 := hide (HXA.out.kept k7 (fun h => by have := hX27 _ h; omega)); have C7 := hide (HCA.out.kept k7 (fun b hb h => by have := hX27 _ h; omega)); have K7 := hide (HKA.out.step k7 (fun k hk h => by have := hX27 _ h; omega)); have q14 := B7.out.cell 14; have f14 := B7.out.frozen 14; clear o7 k7)
  trace "R11"
  have kS : Keeps (· = X2) w7 (w7.setCell ⟨X2, 14, none⟩ (.slice A7 (i + 1) c7)) := Keeps.setCell (S := (· = X2)) (p := ⟨X2, 14, none⟩) (Keeps.refl _ _) (.inl rfl) _
  have BY8 : Hid (Blk (w7.setCell ⟨X2, 14, none⟩ (.slice A7 (i + 1) c7)) X2 28 #[.int .i64 c.length, .int .i64 c.lateness, .int .i64 c.windows, .int .i64 c.shards, .int .i64 c.spread, .int .i64 c.queue, .int .i64 c.mode, .int .i64 c.slots, .int .i64 c.exact_, .int .u64 c.promote, .int .i64 c.depth, .int .i64 c.width, .int .i64 c.top, .int .i64 c.key, .slice A7 (i + 1) c7, .slice (some ⟨b, 0, none⟩) 16 16, .int .u64 c.seed]) := hide (B7.out.set 14 _)
  have BX8 := hide (X7.out.kept kS (by omega))
  have RC8 := hide (C7.out.kept kS (fun b hb e => by omega))
  have RB8 := hide ((O7.out.kept kS (fun b hb e => by have := (O7.out.inB hb).1; omega)).rd (by omega))
  have K8 := hide (K7.out.step kS (fun b hb e => by omega))
  have WB : Hid (Wide (lb ++ [(s', 5)])) := hide (fun x hx => by
    rcases List.mem_append.1 hx with h | h
    · have := HLB.out x h; omega
    · obtain rfl : x = (s', 5) := by simpa using h
      dsimp only; omega)
  clear kS B7 X7 C7 O7 K7 q14 f14 HOA HRA HBA HXA HCA HKA kA OW BL K6 BX6 RC6
  generalize w7.setCell _ _ = w8 at *
  have HS1 := hide (fun W (kW : Keeps (fun _ => False) w8 W) => spoilt_any W c l HSC.out.2.2 (some ⟨G, 0, none⟩) (some ⟨b, 0, none⟩) nl nl 16 16 X1 (RC8.out.kept kW (fun _ _ h => h)) (by have := kW.size; have := BX8.out.lt; omega) (by omega) (by omega) (by omega) (by omega) at_ nn HNN.out)
  have HS2 := hide (fun W (kW : Keeps (fun _ => False) w8 W) => spoilt_any W c (lb ++ [(s', 5)]) WB.out A7 (some ⟨b, 0, none⟩) (i + 1) c7 16 16 _ (RB8.out.kept kW (fun _ _ h => h)) kW.size (by omega) (by omega) (by omega) (by omega) at_ _ (wf_i64 (wf_bits .and .i64 nn 63)))
  refine Code.wp_mono ?_ (reg11 c l (some ⟨G, 0, none⟩) (some ⟨b, 0, none⟩) nl nl 16 16 X1 c (lb ++ [(s', 5)]) A7 (some ⟨b, 0, none⟩) (i + 1) c7 16 16 X2 w8 at_ nn HS1 HS2 BX8.out BY8.out _ _ _ _ _ _ _ _ _ _ _ _ _ _ _ _ _ _ _ _ _ _ _ _ _ _ _ _ _ _ _ _ _ _ _ _ _ _ _ _ _ _ _ _ _ _ _ _ _ _ _ _ _ _ _ _ _ _ _ _ _ _ _ _ _ _ _ _ _ _ _ _ _ _ _ _ _ _ _ _ _ _ _ _ _ _ _ _ _ _ _ _ _ _ _ _ _ _)
  intro e a' w9 hex
  cases e <;> (first | exact hex.elim | skip)
  obtain ⟨G9, ⟨x3, x4, g3, g4, bg, kk⟩, ⟨v57, v58, v59, v60, v61, v62, v63, v64, v65, v66, v67, rfl⟩⟩ := hex
  have K9 := hide (K8.out.trans kk)
  have hF : ∀ x ∈ [(⟨c, l, some ⟨G, 0, none⟩, nl, nl, some ⟨b, 0, none⟩, 16, 16⟩ : Itm), ⟨c, lb ++ [(s', 5)], A7, i + 1, c7, some ⟨b, 0, none⟩, 16, 16⟩, x3, x4], ∃ L ev tv, Dem4 w9 (Value.agg #[.int .i64 x.c.length, .int .i64 x.c.lateness, .int .i64 x.c.windows, .int .i64 x.c.shards, .int .i64 x.c.spread, .int .i64 x.c.queue, .int .i64 x.c.mode, .int .i64 x.c.slots, .int .i64 x.c.exact_, .int .u64 x.c.promote, .int .i64 x.c.depth, .int .i64 x.c.width, .int .i64 x.c.top, .int .i64 x.c.key, .slice x.C x.n x.k, .slice x.T x.q x.j, .int .u64 x.c.seed]) L ev tv := by
    intro x hx
    simp only [List.mem_cons, List.not_mem_nil, or_false] at hx
    rcases hx with rfl | rfl | rfl | rfl
    · exact dem_any _ _ _ _ _ _ _ _ _ w9 HSC.out.2.2 HSC.out.1 HSC.out.2.1 (RC8.out.kept kk (fun _ _ h => h)) (by have := kk.size; have := BX8.out.lt; omega) (by show nl ≤ 1000; omega)
    · exact dem_any _ _ _ _ _ _ _ _ _ w9 WB.out HSC.out.1 HSC.out.2.1 (RB8.out.kept kk (fun _ _ h => h)) kk.size (by show i + 1 ≤ 1000; omega)
    · exact dem_any _ _ _ _ _ _ _ _ _ w9 g3.2.2.2.1 (by rw [g3.2.1]; exact HSC.out.1) (by rw [g3.2.2.1]; exact HSC.out.2.1) g3.2.2.2.2 (Nat.le_refl _) (by rw [g3.1]; omega)
    · exact dem_any _ _ _ _ _ _ _ _ _ w9 g4.2.2.2.1 (by rw [g4.2.1]; exact HSC.out.1) (by rw [g4.2.2.1]; exact HSC.out.2.1) g4.2.2.2.2 (Nat.le_refl _) (by rw [g4.1]; omega)
  clear g3 g4 kk K8 BX8 BY8 RC8 RB8 WB HS1 HS2 HLB HSC
  have hxl : [(⟨c, l, some ⟨G, 0, none⟩, nl, nl, some ⟨b, 0, none⟩, 16, 16⟩ : Itm), ⟨c, lb ++ [(s', 5)], A7, i + 1, c7, some ⟨b, 0, none⟩, 16, 16⟩, x3, x4].length = 4 := rfl
  generalize [(⟨c, l, some ⟨G, 0, none⟩, nl, nl, some ⟨b, 0, none⟩, 16, 16⟩ : Itm), ⟨c, lb ++ [(s', 5)], A7, i + 1, c7, some ⟨b, 0, none⟩, 16, 16⟩, x3, x4] = xs at hF bg hxl
  trace "LOOP2"
  dsimp only
  go_wp2_with fail
  refine Code.wp_mono ?_ (loop2 xs 4 hxl (by omega) G9 w9 hF bg _ _ _ _ _ _ _ _ _ _ _ _ _ _ _ _ _ _ _ _ _ _ _ _ _ _ _ _ _ _ _ _ _ _ _ _ _ _ _ _ _ _ _ _ _ _ _ _ _ _ _ _ _ _ _ _ _ _ _ _ _ _ _ _ _ _ _ _ _ _ _ _ _ _ _ _ _ _ _ _ _ _ _ _ _ _ _ _ _ _ _ _ _ _ _ _ _ _ _)
  intro e a' w'' hex
  cases e <;> (first | exact hex.elim | skip)
  obtain ⟨rfl, ⟨x8, x14, x15, x16, x17, x18, x70, x71, x72, x73, x74, x75, x76, x77, x78, x79, x80, x81, x82, x83, x84, x85, x86, x87, x88, x89, x90, x91, x92, x93, x94, x95, x96, x97, x98, x99, x100, rfl⟩, kx⟩ := hex
  have K11 := hide (K9.out.trans kx)
  clear kx K9 hF bg
  dsimp only
  go_wp2_with fail
  trace "AWAKE"
  refine (awake28 _).mono ?_
  rintro e w13 ⟨rfl, k13⟩
  have K13 := hide (K11.out.trans k13)
  clear k13
  go_wp2_with fail
  go_ret
  exact ⟨rfl, K13.out⟩
end szc
namespace sizingDemand
theorem walk (w : World) (A1 : Option Addr) (n1 c1 : Nat) (z1 : List Int) (r1 : Rd w w.heap.size A1 1 n1 (z1.map (.int .i64))) (b1 : ∀ z ∈ z1, -9223372036854775808 ≤ z ∧ z < 9223372036854775808) (s1 : n1 * 8 ≤ 140737488351232) (l1 : n1 ≤ c1)
    (at_ : Int) (at0 : -9223372036854775808 ≤ at_) (at1 : at_ < 9223372036854775808) (nn : Int) (nn0 : -9223372036854775808 ≤ nn) (nn1 : nn < 9223372036854775808)
    (A4 : Option Addr) (n4 c4 : Nat) (z4 : List Int) (r4 : Rd w w.heap.size A4 1 n4 (z4.map (.int .u8))) (b4 : ∀ z ∈ z4, 0 ≤ z ∧ z < 256) (s4 : n4 * 1 ≤ 140737488351232) (l4 : n4 ≤ c4) :
    Calls Try.prog 7 #[.slice A1 n1 c1, .int .i64 at_, .int .i64 nn, .slice A4 n4 c4] w fun e w' => e = .returned (.bool true) ∧ Below w.heap.size w w' :=
  (szc.main2 w A1 n1 c1 z1 r1 b1 (by omega) at_ nn ⟨nn0, nn1⟩ A4 n4 c4 z4 r4 b4).mono fun e w' ⟨he, hk⟩ => ⟨he, hk.done⟩
end sizingDemand
end Go.Proofs.Ytgjlibecgkhocaa
