/-
  SizingGrows: more shards, windows, keys, events or rows never need fewer slots; the walk. No conditions beyond those of the statement.
-/
import Derived.Test.YtgjlibecgkhocaaSg
import Derived.Test.YtgjlibecgkhocaaLe
set_option linter.unusedVariables false
set_option linter.unusedSimpArgs false
namespace Go.Proofs.Ytgjlibecgkhocaa
open Go.RowKit Cfp
namespace sizingGrows
/-- the second configuration behind the change -/
def Bumped (c : Cfg) (k : Nat) (G nl b X2 : Nat) (w4 wx : World) : Prop :=
  Blk wx X2 28 #[.int .i64 (bump c k).length, .int .i64 (bump c k).lateness, .int .i64 (bump c k).windows, .int .i64 (bump c k).shards, .int .i64 (bump c k).spread, .int .i64 (bump c k).queue, .int .i64 (bump c k).mode, .int .i64 (bump c k).slots, .int .i64 (bump c k).exact_, .int .u64 (bump c k).promote, .int .i64 (bump c k).depth, .int .i64 (bump c k).width, .int .i64 (bump c k).top, .int .i64 (bump c k).key, .slice (some ⟨G, 0, none⟩) nl nl, .slice (some ⟨b, 0, none⟩) 16 16, .int .u64 (bump c k).seed] ∧ Keeps (· = X2) w4 wx

set_option maxRecDepth 100000 in
set_option maxHeartbeats 3000000 in
theorem main (w : World) (A1 : Option Addr) (n1 c1 : Nat) (zs : List Int) (hd : Rd w w.heap.size A1 1 n1 (zs.map (.int .i64))) (hz : ∀ z ∈ zs, -9223372036854775808 ≤ z ∧ z < 9223372036854775808) (hn1 : n1 ≤ 17592186043904)
    (x : Int) (x0 : 0 ≤ x) (x1 : x < 256) :
    Calls Try.prog 9 #[.slice A1 n1 c1, .int .u8 x] w fun e w' => e = .returned (.bool true) ∧ Keeps (fun _ => False) w w' := by
  have HD := hide hd
  clear hd
  go_enter Try.func9, Try.ntmps9
  go_wp2_with fail
  refine (new_deck A1 n1 c1 zs _ w (Nat.le_refl _) HD.out hz (by omega)).mono ?_
  rintro e w1 ⟨rfl, d1, k1⟩
  have K1 := hide k1
  clear k1
  go_wp2_with fail
  refine (config_any _ w.heap.size w1 d1).mono ?_
  rintro e w2 ⟨c, l, G, b, ts, rfl, hm, hl, hsn, hG, bG, tl, tb, bt, hb, d2, k2⟩
  have K2 := hide (K1.out.step k2 (fun b hb e => by omega))
  have HM := hide hm
  have HCl := hide (made_ok l hl (made_counts c hm.fine l hsn))
  have HRm := hide (made_room c hm.width hm.fine.key.2 l hl)
  have hn8 : l.length ≤ 8 := by obtain ⟨p, d, h1, _, _, h2⟩ := made_last l hl; omega
  obtain ⟨nl, hnl⟩ : ∃ nl, nl = l.length := ⟨_, rfl⟩
  rw [← hnl] at hn8 ⊢
  have HNl := hide hnl
  have BX := hide (Blk.new w2 28 #[.int .i64 c.length, .int .i64 c.lateness, .int .i64 c.windows, .int .i64 c.shards, .int .i64 c.spread, .int .i64 c.queue, .int .i64 c.mode, .int .i64 c.slots, .int .i64 c.exact_, .int .u64 c.promote, .int .i64 c.depth, .int .i64 c.width, .int .i64 c.top, .int .i64 c.key, .slice (some ⟨G, 0, none⟩) nl nl, .slice (some ⟨b, 0, none⟩) 16 16, .int .u64 c.seed])
  have kX := (Keeps.refl (fun _ => False) w2).alloc (.cells #[.int .i64 c.length, .int .i64 c.lateness, .int .i64 c.windows, .int .i64 c.shards, .int .i64 c.spread, .int .i64 c.queue, .int .i64 c.mode, .int .i64 c.slots, .int .i64 c.exact_, .int .u64 c.promote, .int .i64 c.depth, .int .i64 c.width, .int .i64 c.top, .int .i64 c.key, .slice (some ⟨G, 0, none⟩) nl nl, .slice (some ⟨b, 0, none⟩) 16 16, .int .u64 c.seed] 28)
  have RC := hide (show Rd (w2.alloc (.cells #[.int .i64 c.length, .int .i64 c.lateness, .int .i64 c.windows, .int .i64 c.shards, .int .i64 c.spread, .int .i64 c.queue, .int .i64 c.mode, .int .i64 c.slots, .int .i64 c.exact_, .int .u64 c.promote, .int .i64 c.depth, .int .i64 c.width, .int .i64 c.top, .int .i64 c.key, .slice (some ⟨G, 0, none⟩) nl nl, .slice (some ⟨b, 0, none⟩) 16 16, .int .u64 c.seed] 28)) w2.heap.size (some ⟨G, 0, none⟩) 2 nl (clv l) from (bG.rd (n := nl) (sz := 2) (by rw [clv_len, hnl])).kept kX (fun _ _ h => h))
  have K3 := hide (K2.out.trans kX)
  have hwX : w.heap.size < w2.heap.size := by have := d2.lt; omega
  clear hl hsn hG bG bt hb d2 k2 hm hnl K2 K1 d1 kX tl tb
  go_upto_region 2 with (refine cfg_st _ _ rfl (by rfl) (by rfl) (by rfl) (by rfl) ?_; simp only [Act.put, List.setIfInBounds_toArray, List.set_cons_zero, List.set_cons_succ])
  generalize w2.alloc _ = w3 at *
  generalize w2.heap.size = X1 at *
  have BY := hide (Blk.new w3 28 #[.int .i64 c.length, .int .i64 c.lateness, .int .i64 c.windows, .int .i64 c.shards, .int .i64 c.spread, .int .i64 c.queue, .int .i64 c.mode, .int .i64 c.slots, .int .i64 c.exact_, .int .u64 c.promote, .int .i64 c.depth, .int .i64 c.width, .int .i64 c.top, .int .i64 c.key, .slice (some ⟨G, 0, none⟩) nl nl, .slice (some ⟨b, 0, none⟩) 16 16, .int .u64 c.seed])
  have kY := (Keeps.refl (fun _ => False) w3).alloc (.cells #[.int .i64 c.length, .int .i64 c.lateness, .int .i64 c.windows, .int .i64 c.shards, .int .i64 c.spread, .int .i64 c.queue, .int .i64 c.mode, .int .i64 c.slots, .int .i64 c.exact_, .int .u64 c.promote, .int .i64 c.depth, .int .i64 c.width, .int .i64 c.top, .int .i64 c.key, .slice (some ⟨G, 0, none⟩) nl nl, .slice (some ⟨b, 0, none⟩) 16 16, .int .u64 c.seed] 28)
  have BX4 := hide (BX.out.kept kY (fun h => h))
  have RC4 := hide (RC.out.kept kY (fun _ _ h => h))
  have K4 := hide (K3.out.trans kY)
  have hX12 : X1 < w3.heap.size := BX.out.lt
  clear kY RC K3
  go_upto_region 3 with (first | (refine cfg_ld _ rfl BX.out rfl (by rfl) ?_; simp only [Act.put, List.setIfInBounds_toArray, List.set_cons_zero, List.set_cons_succ]) | (refine cfg_st _ _ rfl (by rfl) (by rfl) (by rfl) (by rfl) ?_; simp only [Act.put, List.setIfInBounds_toArray, List.set_cons_zero, List.set_cons_succ]))
  generalize w3.alloc _ = w4 at *
  generalize w3.heap.size = X2 at *
  clear BX
  obtain ⟨k, hk, hk6⟩ : ∃ k : Nat, x % 6 = (k : Int) ∧ k < 6 := ⟨(x % 6).toNat, by have := Int.emod_nonneg x (show (6 : Int) ≠ 0 by omega); omega, by have := Int.emod_lt_of_pos x (show (0 : Int) < 6 by omega); omega⟩
  trace "R3"
  go_upto_region 5 with fail
  trace "R5"
  rw [hk]
  clear hk
  have b5 := Blk.new w4 52 #[.pointer (some ⟨X2, 3, none⟩), .pointer (some ⟨X2, 2, none⟩), .pointer (some ⟨X2, 7, none⟩), .pointer (some ⟨X2, 8, none⟩), .pointer (some ⟨X2, 5, none⟩), .pointer (some ⟨X2, 10, none⟩)]
  have k5 := (Keeps.refl (fun _ => False) w4).alloc (.cells #[.pointer (some ⟨X2, 3, none⟩), .pointer (some ⟨X2, 2, none⟩), .pointer (some ⟨X2, 7, none⟩), .pointer (some ⟨X2, 8, none⟩), .pointer (some ⟨X2, 5, none⟩), .pointer (some ⟨X2, 10, none⟩)] 52)
  have BY5 := hide (BY.out.kept k5 (fun h => h))
  have BX5 := hide (BX4.out.kept k5 (fun h => h))
  have RC5 := hide (RC4.out.kept k5 (fun _ _ h => h))
  have K5 := hide (K4.out.trans k5)
  have HB5 := hide b5
  clear BY BX4 RC4 K4 k5 b5
  generalize w4.alloc _ = w5 at *
  generalize w4.heap.size = P at *
  have m1 := HM.out.shards
  have m2 := HM.out.windows
  have m3 := HM.out.slots
  have m4 := HM.out.exact_
  have m5 := HM.out.fine.queue
  have m6 := HM.out.depth
  have n1 := HM.out.fine.shards
  have n2 := HM.out.fine.windows
  have n3 := HM.out.fine.slots
  have n4 := HM.out.fine.exact_
  have n6 := HM.out.fine.depth
  go_cut [] from 31 to 38 (Bumped c k G nl b X2 w5)
  case first =>
    have p0 : w5.cell? ⟨P, 0, none⟩ = _ := HB5.out.cell 0
    have p1 : w5.cell? ⟨P, 1, none⟩ = _ := HB5.out.cell 1
    have p2 : w5.cell? ⟨P, 2, none⟩ = _ := HB5.out.cell 2
    have p3 : w5.cell? ⟨P, 3, none⟩ = _ := HB5.out.cell 3
    have p4 : w5.cell? ⟨P, 4, none⟩ = _ := HB5.out.cell 4
    have p5 : w5.cell? ⟨P, 5, none⟩ = _ := HB5.out.cell 5
    have q3 : w5.cell? ⟨X2, 3, none⟩ = some (.int .i64 c.shards) := BY5.out.cell 3
    have q2 : w5.cell? ⟨X2, 2, none⟩ = some (.int .i64 c.windows) := BY5.out.cell 2
    have q7 : w5.cell? ⟨X2, 7, none⟩ = some (.int .i64 c.slots) := BY5.out.cell 7
    have q8 : w5.cell? ⟨X2, 8, none⟩ = some (.int .i64 c.exact_) := BY5.out.cell 8
    have q5 : w5.cell? ⟨X2, 5, none⟩ = some (.int .i64 c.queue) := BY5.out.cell 5
    have q10 : w5.cell? ⟨X2, 10, none⟩ = some (.int .i64 c.depth) := BY5.out.cell 10
    have f3 := BY5.out.frozen 3
    have f2 := BY5.out.frozen 2
    have f7 := BY5.out.frozen 7
    have f8 := BY5.out.frozen 8
    have f5 := BY5.out.frozen 5
    have f10 := BY5.out.frozen 10
    have kS : ∀ (i : Nat) (v : Value), Keeps (· = X2) w5 (w5.setCell ⟨X2, i, none⟩ v) := fun i v => Keeps.setCell (S := (· = X2)) (p := ⟨X2, i, none⟩) (Keeps.refl _ _) (.inl rfl) _
    have HKS := hide kS
    clear kS
    rcases k with _ | _ | _ | _ | _ | _ | k
    · go_wp2_with fail
      go_meet
      exact ⟨BY5.out.set 3 _, HKS.out 3 _⟩
    · go_wp2_with fail
      go_meet
      exact ⟨BY5.out.set 2 _, HKS.out 2 _⟩
    · go_wp2_with fail
      go_meet
      exact ⟨BY5.out.set 7 _, HKS.out 7 _⟩
    · go_wp2_with fail
      go_meet
      exact ⟨BY5.out.set 8 _, HKS.out 8 _⟩
    · go_wp2_with fail
      go_meet
      exact ⟨BY5.out.set 5 _, HKS.out 5 _⟩
    · go_wp2_with fail
      go_meet
      exact ⟨BY5.out.set 10 _, HKS.out 10 _⟩
    · omega
  case rest =>
  trace "REST"
  obtain ⟨bb, kb⟩ := hcut
  have hne : X1 ≠ X2 := by omega
  have D6 := hide bb
  have C6 := hide (BX5.out.kept kb hne)
  have R6 := hide (RC5.out.kept kb (fun q hq => by omega))
  have K6 := hide (K5.out.step kb (fun q hq e => by omega))
  have hX6 : X1 ≤ wc.heap.size := by have := C6.out.lt; omega
  clear BX5 RC5 K5 BY5 HB5 bb kb m1 m2 m3 m4 n1 n2 n3 n4 n6
  by_cases hq : (bump c k).queue ≤ 64
  · have FD := hide (bump_fine c HM.out k hq)
    have HG := hide (grows c HM.out k l hq HRm.out)
    have RD := hide (show Room (bump c k) l by obtain ⟨p, d, h1, h2, h3, h4, h5⟩ := HRm.out; have hs := bump_same c k; exact ⟨p, d, h1, h2, by rw [hs.1]; exact h3, h4, by rw [hs.2]; exact h5⟩)
    have TB := hide (bump_more c HM.out.fine k).2.1
    have htc := HM.out.fine.tr
    have htd := FD.out.tr
    have hzc := hide (demand0_len c l)
    have hzd := hide (demand0_len (bump c k) l)
    have HDc := hide (fun W hr hB => sdemand_ok c HM.out.fine l HCl.out HRm.out (some ⟨G, 0, none⟩) (some ⟨b, 0, none⟩) nl nl 16 X1 W hr hB)
    have HDd := hide (fun W hr hB => sdemand_ok (bump c k) FD.out l HCl.out RD.out (some ⟨G, 0, none⟩) (some ⟨b, 0, none⟩) nl nl 16 X1 W hr hB)
    have HTc := hide (fun W hr hB => stracked_ok c HM.out.fine l HCl.out HRm.out (some ⟨G, 0, none⟩) (some ⟨b, 0, none⟩) nl nl 16 X1 W hr hB)
    have HTd := hide (fun W hr hB => stracked_ok (bump c k) FD.out l HCl.out RD.out (some ⟨G, 0, none⟩) (some ⟨b, 0, none⟩) nl nl 16 X1 W hr hB)
    have HCd := hide (fun W hr hB => scheck_ok (bump c k) FD.out l HCl.out RD.out (some ⟨G, 0, none⟩) (some ⟨b, 0, none⟩) nl nl 16 X1 W hr hB)
    obtain ⟨d, hde⟩ : ∃ d, d = bump c k := ⟨_, rfl⟩
    rw [← hde] at HDd HTd HCd D6 HG TB htd hzd
    obtain ⟨xs, hxs⟩ : ∃ xs, xs = demand0 c l := ⟨_, rfl⟩
    obtain ⟨ys, hys⟩ : ∃ ys, ys = demand0 d l := ⟨_, rfl⟩
    rw [← hxs] at HDc HG hzc
    rw [← hys] at HDd HG hzd
    obtain ⟨tc, htce⟩ : ∃ tc, tc = tracked0 c := ⟨_, rfl⟩
    obtain ⟨td, htde⟩ : ∃ td, td = tracked0 d := ⟨_, rfl⟩
    rw [← htce] at HTc TB htc
    rw [← htde] at HTd TB htd
    rw [← HNl.out] at HG hzc hzd
    clear hde hxs hys htce htde FD RD hq HRm HCl HM HNl m5 m6
    go_wp2_with (refine cfg_ld _ rfl D6.out rfl (by rfl) ?_; simp only [Act.put, List.setIfInBounds_toArray, List.set_cons_zero, List.set_cons_succ])
    trace "CHECK"
    refine (HCd.out _ R6.out hX6).mono ?_
    rintro e w7 ⟨rfl, k7⟩
    have D7 := hide (D6.out.kept k7 (fun h => h))
    have C7 := hide (C6.out.kept k7 (fun h => h))
    have R7 := hide (R6.out.kept k7 (fun _ _ h => h))
    have K7 := hide (K6.out.trans k7)
    have hX7 := Nat.le_trans hX6 k7.size
    clear k7 D6 C6 R6 K6 HCd
    go_wp2_with (refine cfg_ld _ rfl C7.out rfl (by rfl) ?_; simp only [Act.put, List.setIfInBounds_toArray, List.set_cons_zero, List.set_cons_succ])
    trace "DEMAND C"
    refine (HDc.out _ R7.out hX7).mono ?_
    rintro e w8 ⟨g8, rfl, hg8, nu8, k8⟩
    have D8 := hide (D7.out.kept k8 (fun h => h))
    have C8 := hide (C7.out.kept k8 (fun h => h))
    have R8 := hide (R7.out.kept k8 (fun _ _ h => h))
    have K8 := hide (K7.out.trans k8)
    have hX8 := Nat.le_trans hX7 k8.size
    have N8 := hide nu8
    clear k8 D7 C7 R7 K7 HDc nu8 hg8
    go_wp2_with (refine cfg_ld _ rfl D8.out rfl (by rfl) ?_; simp only [Act.put, List.setIfInBounds_toArray, List.set_cons_zero, List.set_cons_succ])
    trace "DEMAND D"
    refine (HDd.out _ R8.out hX8).mono ?_
    rintro e w9 ⟨g9, rfl, hg9, nu9, k9⟩
    have D9 := hide (D8.out.kept k9 (fun h => h))
    have C9 := hide (C8.out.kept k9 (fun h => h))
    have R9 := hide (R8.out.kept k9 (fun _ _ h => h))
    have K9 := hide (K8.out.trans k9)
    have hX9 := Nat.le_trans hX8 k9.size
    have N9 := hide nu9
    have M9 := hide (N8.out.kept k9 (fun h => h))
    clear k9 D8 C8 R8 K8 HDd nu9 hg9 N8
    have hnn : ((nl : Int) != (nl : Int)) = false := by simp
    go_wp2_with fail
    trace "LOOP"
    go_loopw [13, 14, 68] (fun mv _ iv wr => ∃ i : Nat, i ≤ nl ∧ iv = .int .i64 i ∧ mv = .int .i64 (moreN xs ys i) ∧ Hid (Keeps (fun _ => False) w9 wr)) (fun _ _ iv _ => nl - (intOf iv).toNat)
    case atStart => exact ⟨0, by omega, rfl, rfl, hide (Keeps.refl _ _)⟩
    case round =>
      obtain ⟨i, hi, rfl, rfl, KR⟩ := hrel
      by_cases hlt : i < nl
      · have HLT : Hid (i + 1 ≤ nl) := hlt
        have hx := (M9.out.kept KR.out (fun h => h)).cell i (by rw [hzc.out]; exact hlt)
        have hy := (N9.out.kept KR.out (fun h => h)).cell i (by rw [hzd.out]; exact hlt)
        obtain ⟨h1, h2, h3⟩ := HG.out.1 i hlt
        obtain ⟨h4, h5⟩ := more_bd xs ys nl HG.out.1 i hi
        have HS : Hid (moreN xs ys (i + 1) = moreN xs ys i + (ys.getD i 0 - xs.getD i 0)) := by rfl
        obtain ⟨xv, hxv⟩ : ∃ xv, xv = xs.getD i 0 := ⟨_, rfl⟩
        obtain ⟨yv, hyv⟩ : ∃ yv, yv = ys.getD i 0 := ⟨_, rfl⟩
        obtain ⟨mv, hmv⟩ : ∃ mv, mv = moreN xs ys i := ⟨_, rfl⟩
        rw [← hxv] at hx h1 h2 HS
        rw [← hyv] at hy h1 h3 HS
        rw [← hmv] at h4 h5 HS ⊢
        have hiI : (i : Int) < (nl : Int) := by omega
        have hi0 : (0 : Int) ≤ (i : Int) := by omega
        have e1 : decide (yv < xv) = false := by simp; omega
        have s1 : IntKind.i64.wrap (yv - xv) = yv - xv := IntWalk.i64_in _ (by omega)
        have s2 : IntKind.i64.wrap (mv + (yv - xv)) = mv + (yv - xv) := IntWalk.i64_in _ (by omega)
        clear hxv hyv hmv
        go_wp2_with fail
        go_quiet (fail)
        go_wp2_with fail
        go_quiet (fail)
        go_wp2_with fail
        trace "ROUND"
        go_roundw
        case rel => exact ⟨i + 1, HLT.out, by go_num, by rw [HS.out], hide (by first | exact KR.out.drewN _ | exact (KR.out.drewN _).drewN _)⟩
        case measure => have := HLT.out; simp [intOf]; omega
      · obtain rfl : i = nl := by omega
        have hpos := HG.out.2
        obtain ⟨mv, hmv⟩ : ∃ mv, mv = moreN xs ys i := ⟨_, rfl⟩
        rw [← hmv] at hpos ⊢
        have e1 : decide (0 < mv) = true := by simpa using hpos
        have e2 : decide (tc ≤ td) = true := by simpa using TB.out
        have HFC : Hid (∀ W, Keeps (fun _ => False) wr W → Blk W X2 28 #[.int .i64 d.length, .int .i64 d.lateness, .int .i64 d.windows, .int .i64 d.shards, .int .i64 d.spread, .int .i64 d.queue, .int .i64 d.mode, .int .i64 d.slots, .int .i64 d.exact_, .int .u64 d.promote, .int .i64 d.depth, .int .i64 d.width, .int .i64 d.top, .int .i64 d.key, .slice (some ⟨G, 0, none⟩) i i, .slice (some ⟨b, 0, none⟩) 16 16, .int .u64 d.seed] ∧ Blk W X1 28 #[.int .i64 c.length, .int .i64 c.lateness, .int .i64 c.windows, .int .i64 c.shards, .int .i64 c.spread, .int .i64 c.queue, .int .i64 c.mode, .int .i64 c.slots, .int .i64 c.exact_, .int .u64 c.promote, .int .i64 c.depth, .int .i64 c.width, .int .i64 c.top, .int .i64 c.key, .slice (some ⟨G, 0, none⟩) i i, .slice (some ⟨b, 0, none⟩) 16 16, .int .u64 c.seed]) := fun W k => ⟨(D9.out.kept KR.out (fun h => h)).kept k (fun h => h), (C9.out.kept KR.out (fun h => h)).kept k (fun h => h)⟩
        have RR := hide (R9.out.kept KR.out (fun _ _ h => h))
        have hXr := Nat.le_trans hX9 KR.out.size
        have K10 := hide (K9.out.trans KR.out)
        have k0 : Keeps (fun _ => False) wr wr := Keeps.refl _ _
        clear hmv hpos D9 C9 R9 K9 HG M9 N9 TB
        go_upto_region 20 with fail
        trace "R20"
        refine wp_region_held_drew (S := fun w' => Blk w' X2 28 #[.int .i64 d.length, .int .i64 d.lateness, .int .i64 d.windows, .int .i64 d.shards, .int .i64 d.spread, .int .i64 d.queue, .int .i64 d.mode, .int .i64 d.slots, .int .i64 d.exact_, .int .u64 d.promote, .int .i64 d.depth, .int .i64 d.width, .int .i64 d.top, .int .i64 d.key, .slice (some ⟨G, 0, none⟩) i i, .slice (some ⟨b, 0, none⟩) 16 16, .int .u64 d.seed] ∧ Blk w' X1 28 #[.int .i64 c.length, .int .i64 c.lateness, .int .i64 c.windows, .int .i64 c.shards, .int .i64 c.spread, .int .i64 c.queue, .int .i64 c.mode, .int .i64 c.slots, .int .i64 c.exact_, .int .u64 c.promote, .int .i64 c.depth, .int .i64 c.width, .int .i64 c.top, .int .i64 c.key, .slice (some ⟨G, 0, none⟩) i i, .slice (some ⟨b, 0, none⟩) 16 16, .int .u64 c.seed]) (by kernel_rfl) (HFC.out _ k0.drew) (fun hHeld => ?_)
        refine wpAnyH_take (i := 0) (v := ?_) rfl (by kernel_rfl) (by kernel_rfl) (by kernel_rfl) (fun _ _ _ h => h) (Or.inl ⟨by first | kernel_rfl | rfl, ?_⟩) (by assumption) ?_; rotate_left; focus (intro w hSw; (try dsimp only at hSw); go_simp; try (with_reducible rfl)); (try simp only [Act.put, List.setIfInBounds_toArray, List.set_cons_zero, List.set_cons_succ])
        refine wpAnyH_take (i := 1) (v := ?_) rfl (by kernel_rfl) (by kernel_rfl) (by kernel_rfl) (fun _ _ _ h => h) (Or.inl ⟨by first | kernel_rfl | rfl, ?_⟩) (by assumption) ?_; rotate_left; focus (intro w hSw; (try dsimp only at hSw); go_simp; try (with_reducible rfl)); (try simp only [Act.put, List.setIfInBounds_toArray, List.set_cons_zero, List.set_cons_succ])
        try rw [e1]
        refine wpAnyH_take (i := 2) (v := ?_) rfl (by kernel_rfl) (by kernel_rfl) (by kernel_rfl) (fun _ _ _ h => h) (Or.inl ⟨by first | kernel_rfl | rfl, ?_⟩) (by assumption) ?_; rotate_left; focus (intro w hSw; (try dsimp only at hSw); go_simp; try (with_reducible rfl)); (try simp only [Act.put, List.setIfInBounds_toArray, List.set_cons_zero, List.set_cons_succ])
        refine wpAnyH_take (i := 3) (v := _) rfl (by kernel_rfl) (by kernel_rfl) (by kernel_rfl) (fun _ _ _ h => h) (cfg_yields (c := d) (C := some ⟨G, 0, none⟩) (T := some ⟨b, 0, none⟩) (n := i) (k := i) (q := 16) (j := 16) (g := X2) (.tmp 6) rfl (fun _ h => h.1) (by simp [Act.eval, Act.put]) ?_) (by assumption) ?_
        focus kernel_rfl
        simp only [Act.put, List.setIfInBounds_toArray, List.set_cons_zero, List.set_cons_succ]
        refine wpAnyH_take (i := 5) (v := _) rfl (by kernel_rfl) (by kernel_rfl) (by kernel_rfl) (fun _ _ _ h => h) (cfg_yields (c := c) (C := some ⟨G, 0, none⟩) (T := some ⟨b, 0, none⟩) (n := i) (k := i) (q := 16) (j := 16) (g := X1) (.tmp 5) rfl (fun _ h => h.2) (by simp [Act.eval, Act.put]) ?_) (by assumption) ?_
        focus kernel_rfl
        simp only [Act.put, List.setIfInBounds_toArray, List.set_cons_zero, List.set_cons_succ]
        trace "TAKEN"
        refine wpAnyH_ready (rs := [4]) (by kernel_rfl) (by simp) ?_
        refine AllReadyH.cons rfl (fun K hK => ?_) AllReadyH.nil
        · go_simp
          go_at_call 31
          refine (HTd.out _ RR.out.drew hXr).mono ?_
          rintro e w11 ⟨rfl, k11⟩
          have k11' : Keeps (fun _ => False) wr w11 := k0.drew.trans k11
          try go_wp2_with fail
          refine hK.out _ _ (HFC.out _ k11') (fun hHeld2 => ?_)
          clear hK K
          try simp only [Act.put, List.setIfInBounds_toArray, List.set_cons_zero, List.set_cons_succ]
          refine wpAnyH_ready (rs := [6]) (by kernel_rfl) (by simp) ?_
          refine AllReadyH.cons rfl (fun K hK => ?_) AllReadyH.nil
          go_simp
          go_at_call 31
          refine (HTc.out _ (RR.out.kept k11' (fun _ _ h => h)) (Nat.le_trans hXr k11'.size)).mono ?_
          rintro e w12 ⟨rfl, k12⟩
          have k12' : Keeps (fun _ => False) wr w12 := k11'.trans k12
          try go_wp2_with fail
          refine hK.out _ _ (HFC.out _ k12') (fun hHeld3 => ?_)
          clear hK K
          try simp only [Act.put, List.setIfInBounds_toArray, List.set_cons_zero, List.set_cons_succ]
          trace "TAIL"
          refine wpAnyH_take (i := 7) (v := ?_) rfl (by kernel_rfl) (by kernel_rfl) (by kernel_rfl) (fun _ _ _ h => h) (Or.inl ⟨by first | kernel_rfl | rfl, ?_⟩) (by assumption) ?_; rotate_left; focus (intro w hSw; (try dsimp only at hSw); go_simp; try (with_reducible rfl)); (try simp only [Act.put, List.setIfInBounds_toArray, List.set_cons_zero, List.set_cons_succ])
          try simp only [e2]
          refine wpAnyH_take (i := 8) (v := ?_) rfl (by kernel_rfl) (by kernel_rfl) (by kernel_rfl) (fun _ _ _ h => h) (Or.inl ⟨by first | kernel_rfl | rfl, ?_⟩) (by assumption) ?_; rotate_left; focus (intro w hSw; (try dsimp only at hSw); go_simp; try (with_reducible rfl)); (try simp only [Act.put, List.setIfInBounds_toArray, List.set_cons_zero, List.set_cons_succ])
          refine wpAnyH_take (i := 9) (v := ?_) rfl (by kernel_rfl) (by kernel_rfl) (by kernel_rfl) (fun _ _ _ h => h) (Or.inl ⟨by first | kernel_rfl | rfl, ?_⟩) (by assumption) ?_; rotate_left; focus (intro w hSw; (try dsimp only at hSw); go_simp; try (with_reducible rfl)); (try simp only [Act.put, List.setIfInBounds_toArray, List.set_cons_zero, List.set_cons_succ])
          refine wpAnyH_ready (rs := [10]) (by kernel_rfl) (by simp) ?_
          refine AllReadyH.cons rfl (fun K hK => ?_) AllReadyH.nil
          go_simp
          go_at_call 23
          refine (awake28 _).mono ?_
          rintro e w13 ⟨rfl, k13⟩
          have k13' : Keeps (fun _ => False) wr w13 := k12'.trans k13
          try go_wp2_with fail
          refine hK.out _ _ (HFC.out _ k13') (fun hHeld4 => ?_)
          clear hK K
          try simp only [Act.put, List.setIfInBounds_toArray, List.set_cons_zero, List.set_cons_succ]
          refine wpAnyH_take (i := 11) (v := ?_) rfl (by kernel_rfl) (by kernel_rfl) (by kernel_rfl) (fun _ _ _ h => h) (Or.inl ⟨by first | kernel_rfl | rfl, ?_⟩) (by assumption) ?_; rotate_left; focus (intro w hSw; (try dsimp only at hSw); go_simp; try (with_reducible rfl)); (try simp only [Act.put, List.setIfInBounds_toArray, List.set_cons_zero, List.set_cons_succ])
          refine wpAnyH_take (i := 12) (v := ?_) rfl (by kernel_rfl) (by kernel_rfl) (by kernel_rfl) (fun _ _ _ h => h) (Or.inl ⟨by first | kernel_rfl | rfl, ?_⟩) (by assumption) ?_; rotate_left; focus (intro w hSw; (try dsimp only at hSw); go_simp; try (with_reducible rfl)); (try simp only [Act.put, List.setIfInBounds_toArray, List.set_cons_zero, List.set_cons_succ])
          refine wpAnyH_done (by kernel_rfl) ?_ _
          trace "DONE"
          go_wp2_with fail
          go_ret
          exact ⟨rfl, K10.out.trans k13'⟩
  · trace "QUEUE"
    have hk4 : k = 4 := by
      rcases k with _ | _ | _ | _ | _ | _ | k
      all_goals first | rfl | (exfalso; simp only [bump] at hq; omega) | omega
    subst hk4
    have hq2 : 64 < (bump c 4).queue := by omega
    have hf2 : Fine { (bump c 4) with queue := 1 } := by
      have f := HM.out.fine
      exact ⟨f.length, f.lateness, f.windows, f.shards, f.spread, by dsimp only; omega, f.mode, f.slots, f.exact_, f.promote, f.depth, f.width, f.top, f.key, f.seed⟩
    have HCd := hide (fun W => scheck_queue (bump c 4) hf2 hq2 (some ⟨G, 0, none⟩) (some ⟨b, 0, none⟩) nl nl 16 X1 W)
    obtain ⟨d, hde⟩ : ∃ d, d = bump c 4 := ⟨_, rfl⟩
    rw [← hde] at HCd D6
    clear hde hq hq2 hf2 HM HCl HRm
    go_wp2_with (refine cfg_ld _ rfl D6.out rfl (by rfl) ?_; simp only [Act.put, List.setIfInBounds_toArray, List.set_cons_zero, List.set_cons_succ])
    refine (HCd.out _).mono ?_
    rintro e w7 ⟨rfl, k7⟩
    have K7 := hide (K6.out.trans k7)
    clear k7
    go_wp2_with fail
    refine (awake28 _).mono ?_
    rintro e w8 ⟨rfl, k8⟩
    have K8 := hide (K7.out.trans k8)
    clear k8
    go_wp2_with fail
    go_ret
    exact ⟨rfl, K8.out⟩
theorem walk (w : World) (A1 : Option Addr) (n1 c1 : Nat) (z1 : List Int) (r1 : Rd w w.heap.size A1 1 n1 (z1.map (.int .i64))) (b1 : ∀ z ∈ z1, -9223372036854775808 ≤ z ∧ z < 9223372036854775808) (s1 : n1 * 8 ≤ 140737488351232) (l1 : n1 ≤ c1)
    (x : Int) (x0 : 0 ≤ x) (x1 : x < 256) :
    Calls Try.prog 9 #[.slice A1 n1 c1, .int .u8 x] w fun e w' => e = .returned (.bool true) ∧ Below w.heap.size w w' :=
  (main w A1 n1 c1 z1 r1 b1 (by omega) x x0 x1).mono fun e w' ⟨he, hk⟩ => ⟨he, hk.done⟩
end sizingGrows
end Go.Proofs.Ytgjlibecgkhocaa
