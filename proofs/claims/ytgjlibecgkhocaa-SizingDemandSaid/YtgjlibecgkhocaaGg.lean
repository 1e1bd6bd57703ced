/-
  Tracked, Demand and Validate of any configuration. No conditions beyond those of the statement.
-/
import Derived.Test.YtgjlibecgkhocaaMB
import Derived.Test.YtgjlibecgkhocaaSv
import Derived.Test.YtgjlibecgkhocaaCf5
import Derived.Deep.CutRange
set_option linter.unusedVariables false
set_option linter.unusedSimpArgs false
namespace Go.Proofs.Ytgjlibecgkhocaa
open Go.RowKit Cfp
set_option maxRecDepth 100000 in
set_option maxHeartbeats 1500000 in
theorem rvalidate_ok (c : Cfg) (h : Fine c) (l : List (Int × Int)) (hl : classesE l = 0) (hm : Room c l) (C T : Option Addr) (n k j B : Nat) (w : World) (hr : Rd w B C 2 n (clv l)) (hB : B ≤ w.heap.size) :
    Calls Try.prog 28 #[Value.agg #[.int .i64 c.length, .int .i64 c.lateness, .int .i64 c.windows, .int .i64 c.shards, .int .i64 c.spread, .int .i64 c.queue, .int .i64 c.mode, .int .i64 c.slots, .int .i64 c.exact_, .int .u64 c.promote, .int .i64 c.depth, .int .i64 c.width, .int .i64 c.top, .int .i64 c.key, .slice C n k, .slice T 16 j, .int .u64 c.seed]] w fun e w' => e = .returned (.int .i64 (fullV (demand0 c l) l)) ∧ Keeps (fun _ => False) w w' := by
  have HR := hide hr
  have hlen : l.length = n := by have := hr.1; rw [clv_len] at this; omega
  have hdl : (demand0 c l).length = n := by rw [demand0_len]; exact hlen
  obtain ⟨⟨n0, n1⟩, hlb⟩ := classes_bd l hl
  have hn8 : n ≤ 8 := by omega
  have HD := hide (fun W hr' hB' => demand_ok c h l hl hm C T n k j B W hr' hB')
  obtain ⟨zs, hzs⟩ : ∃ zs, zs = demand0 c l := ⟨_, rfl⟩
  rw [← hzs] at HD hdl ⊢
  obtain ⟨fv, hfv⟩ : ∃ fv, fv = fullV zs l := ⟨_, rfl⟩
  rw [← hfv]
  have HF := hide hfv
  have HLn := hide hlen
  have HDl := hide hdl
  have bX := hide (Blk.new w 28 #[.int .i64 c.length, .int .i64 c.lateness, .int .i64 c.windows, .int .i64 c.shards, .int .i64 c.spread, .int .i64 c.queue, .int .i64 c.mode, .int .i64 c.slots, .int .i64 c.exact_, .int .u64 c.promote, .int .i64 c.depth, .int .i64 c.width, .int .i64 c.top, .int .i64 c.key, .slice C n k, .slice T 16 j, .int .u64 c.seed])
  have kX := hide ((Keeps.refl (fun _ => False) w).alloc (.cells #[.int .i64 c.length, .int .i64 c.lateness, .int .i64 c.windows, .int .i64 c.shards, .int .i64 c.spread, .int .i64 c.queue, .int .i64 c.mode, .int .i64 c.slots, .int .i64 c.exact_, .int .u64 c.promote, .int .i64 c.depth, .int .i64 c.width, .int .i64 c.top, .int .i64 c.key, .slice C n k, .slice T 16 j, .int .u64 c.seed] 28))
  clear hr hlen n0 n1 hlb hl hm h hzs hfv hdl
  go_enter Try.func28, Try.ntmps28
  go_wp2_with (refine cfg_ld _ rfl bX.out rfl (by rfl) ?_; simp only [Act.put, List.setIfInBounds_toArray, List.set_cons_zero, List.set_cons_succ])
  refine (HD.out _ (HR.out.kept kX.out (fun _ _ h => h)) (Nat.le_trans hB kX.out.size)).mono ?_
  rintro e w2 ⟨g, rfl, hg, nu, k2⟩
  have B2 := hide (bX.out.kept k2 (fun h => h))
  have K2 := hide (kX.out.trans k2)
  have NU := hide nu
  clear nu k2 bX kX HD hg
  go_wp2_with fail
  go_loop [5, 6, 17] (fun _ _ iv => ∃ i : Nat, i ≤ n ∧ iv = .int .i64 i ∧ Hid (∀ q (h1 : q < zs.length) (h2 : q < l.length), q < i → zs[q] ≤ l[q].2)) (fun _ _ iv => n - (intOf iv).toNat)
  case atStart => exact ⟨0, by omega, rfl, hide (fun q _ _ h => by omega)⟩
  case round =>
    obtain ⟨i, hi, rfl, HQ⟩ := hrel
    by_cases hlt : i < n
    · have HLT : Hid (i + 1 ≤ n) := hlt
      have hil : i < l.length := by rw [HLn.out]; exact hlt
      have hiz : i < zs.length := by rw [HDl.out]; exact hlt
      have hz := NU.out.cell i hiz
      obtain ⟨z, hze⟩ : ∃ z, z = zs.getD i 0 := ⟨_, rfl⟩
      rw [← hze] at hz
      have hze' : zs[i] = z := by rw [hze]; simp [List.getD, hiz]
      obtain ⟨x, hx⟩ : ∃ x, l[i]? = some x := ⟨l[i]'hil, by simp⟩
      have hcl : l[i] = x := by rw [List.getElem?_eq_getElem hil] at hx; injection hx
      obtain ⟨b, off, rfl, hbB, hcell⟩ := (HR.out.kept K2.out (fun _ _ h => h)).2 (by omega)
      obtain ⟨g1, g2⟩ := clv_at l i x hx
      have f2 := hcell _ _ g2
      rw [← Nat.add_assoc] at f2
      have q14 : w2.cell? ⟨w.heap.size, 14, none⟩ = some (.slice (some ⟨b, off, none⟩) n k) := B2.out.cell 14
      have hiI : (i : Int) < (n : Int) := by omega
      have hi0 : (0 : Int) ≤ (i : Int) := by omega
      have HZ := hide hze'
      have HX := hide hcl
      clear hze hze' hx hcl hcell g1 g2
      by_cases hlt2 : x.2 < z
      · have HV := hide (show fv = 7 by rw [HF.out]; exact fullV_t (full_some zs l i hiz hil (by rw [HZ.out, HX.out]; exact hlt2)))
        go_wp2_with fail
        go_ret
        exact ⟨ret_int HV.out.symm, K2.out⟩
      · have hlt3 : z ≤ x.2 := by omega
        go_wp2_with fail
        go_round
        case rel =>
          refine ⟨i + 1, HLT.out, by go_num, hide (fun q h1 h2 hq => ?_)⟩
          rcases Nat.lt_or_ge q i with h | h
          · exact HQ.out q h1 h2 h
          · obtain rfl : q = i := by omega
            rw [HZ.out, HX.out]; exact hlt3
        case measure => have := HLT.out; simp [intOf]; omega
    · have HV := hide (show fv = 0 by rw [HF.out]; exact fullV_f (full_none zs l (fun q h1 h2 => HQ.out q h1 h2 (by rw [HDl.out] at h1; omega))))
      go_wp2_with fail
      go_ret
      exact ⟨ret_int HV.out.symm, K2.out⟩


set_option maxRecDepth 100000 in
set_option maxHeartbeats 1000000 in
theorem stracked_bad (c : Cfg) (C T : Option Addr) (n k q j : Nat) (w : World) (ce : Int) (hce : ce ≠ 0) (H : Hid (∀ W, Keeps (fun _ => False) w W → Calls Try.prog 25 #[Value.agg #[.int .i64 c.length, .int .i64 c.lateness, .int .i64 c.windows, .int .i64 c.shards, .int .i64 c.spread, .int .i64 c.queue, .int .i64 c.mode, .int .i64 c.slots, .int .i64 c.exact_, .int .u64 c.promote, .int .i64 c.depth, .int .i64 c.width, .int .i64 c.top, .int .i64 c.key, .slice C n k, .slice T q j, .int .u64 c.seed]] W fun e w' => e = .returned (.int .i64 ce) ∧ Keeps (fun _ => False) W w')) :
    Calls Try.prog 31 #[Value.agg #[.int .i64 c.length, .int .i64 c.lateness, .int .i64 c.windows, .int .i64 c.shards, .int .i64 c.spread, .int .i64 c.queue, .int .i64 c.mode, .int .i64 c.slots, .int .i64 c.exact_, .int .u64 c.promote, .int .i64 c.depth, .int .i64 c.width, .int .i64 c.top, .int .i64 c.key, .slice C n k, .slice T q j, .int .u64 c.seed]] w fun e w' => e = .returned (.int .i64 0) ∧ Keeps (fun _ => False) w w' := by
  have e4 : (ce == 0) = false := by simpa using hce
  have e4' : (ce != 0) = true := by simpa using hce
  have bX := hide (Blk.new w 28 #[.int .i64 c.length, .int .i64 c.lateness, .int .i64 c.windows, .int .i64 c.shards, .int .i64 c.spread, .int .i64 c.queue, .int .i64 c.mode, .int .i64 c.slots, .int .i64 c.exact_, .int .u64 c.promote, .int .i64 c.depth, .int .i64 c.width, .int .i64 c.top, .int .i64 c.key, .slice C n k, .slice T q j, .int .u64 c.seed])
  have kX := hide ((Keeps.refl (fun _ => False) w).alloc (.cells #[.int .i64 c.length, .int .i64 c.lateness, .int .i64 c.windows, .int .i64 c.shards, .int .i64 c.spread, .int .i64 c.queue, .int .i64 c.mode, .int .i64 c.slots, .int .i64 c.exact_, .int .u64 c.promote, .int .i64 c.depth, .int .i64 c.width, .int .i64 c.top, .int .i64 c.key, .slice C n k, .slice T q j, .int .u64 c.seed] 28))
  clear hce
  go_enter Try.func31, Try.ntmps31
  go_wp2_with (refine cfg_ld _ rfl bX.out rfl (by rfl) ?_; simp only [Act.put, List.setIfInBounds_toArray, List.set_cons_zero, List.set_cons_succ])
  refine (H.out _ kX.out).mono ?_
  rintro e w2 ⟨rfl, k2⟩
  have K2 := hide (kX.out.trans k2)
  clear k2
  go_wp2_with fail
  go_ret
  exact ⟨rfl, K2.out⟩
set_option maxRecDepth 100000 in
set_option maxHeartbeats 1000000 in
theorem rtracked_bad (c : Cfg) (C T : Option Addr) (n k q j : Nat) (w : World) (ce : Int) (hce : ce ≠ 0) (H : Hid (∀ W, Keeps (fun _ => False) w W → Calls Try.prog 26 #[Value.agg #[.int .i64 c.length, .int .i64 c.lateness, .int .i64 c.windows, .int .i64 c.shards, .int .i64 c.spread, .int .i64 c.queue, .int .i64 c.mode, .int .i64 c.slots, .int .i64 c.exact_, .int .u64 c.promote, .int .i64 c.depth, .int .i64 c.width, .int .i64 c.top, .int .i64 c.key, .slice C n k, .slice T q j, .int .u64 c.seed]] W fun e w' => e = .returned (.int .i64 ce) ∧ Keeps (fun _ => False) W w')) :
    Calls Try.prog 32 #[Value.agg #[.int .i64 c.length, .int .i64 c.lateness, .int .i64 c.windows, .int .i64 c.shards, .int .i64 c.spread, .int .i64 c.queue, .int .i64 c.mode, .int .i64 c.slots, .int .i64 c.exact_, .int .u64 c.promote, .int .i64 c.depth, .int .i64 c.width, .int .i64 c.top, .int .i64 c.key, .slice C n k, .slice T q j, .int .u64 c.seed]] w fun e w' => e = .returned (.int .i64 0) ∧ Keeps (fun _ => False) w w' := by
  have e4 : (ce == 0) = false := by simpa using hce
  have e4' : (ce != 0) = true := by simpa using hce
  have bX := hide (Blk.new w 28 #[.int .i64 c.length, .int .i64 c.lateness, .int .i64 c.windows, .int .i64 c.shards, .int .i64 c.spread, .int .i64 c.queue, .int .i64 c.mode, .int .i64 c.slots, .int .i64 c.exact_, .int .u64 c.promote, .int .i64 c.depth, .int .i64 c.width, .int .i64 c.top, .int .i64 c.key, .slice C n k, .slice T q j, .int .u64 c.seed])
  have kX := hide ((Keeps.refl (fun _ => False) w).alloc (.cells #[.int .i64 c.length, .int .i64 c.lateness, .int .i64 c.windows, .int .i64 c.shards, .int .i64 c.spread, .int .i64 c.queue, .int .i64 c.mode, .int .i64 c.slots, .int .i64 c.exact_, .int .u64 c.promote, .int .i64 c.depth, .int .i64 c.width, .int .i64 c.top, .int .i64 c.key, .slice C n k, .slice T q j, .int .u64 c.seed] 28))
  clear hce
  go_enter Try.func32, Try.ntmps32
  go_wp2_with (refine cfg_ld _ rfl bX.out rfl (by rfl) ?_; simp only [Act.put, List.setIfInBounds_toArray, List.set_cons_zero, List.set_cons_succ])
  refine (H.out _ kX.out).mono ?_
  rintro e w2 ⟨rfl, k2⟩
  have K2 := hide (kX.out.trans k2)
  clear k2
  go_wp2_with fail
  go_ret
  exact ⟨rfl, K2.out⟩
set_option maxRecDepth 100000 in
set_option maxHeartbeats 1000000 in
theorem sdemand_bad (c : Cfg) (C T : Option Addr) (n k q j : Nat) (w : World) (ce : Int) (hce : ce ≠ 0) (H : Hid (∀ W, Keeps (fun _ => False) w W → Calls Try.prog 25 #[Value.agg #[.int .i64 c.length, .int .i64 c.lateness, .int .i64 c.windows, .int .i64 c.shards, .int .i64 c.spread, .int .i64 c.queue, .int .i64 c.mode, .int .i64 c.slots, .int .i64 c.exact_, .int .u64 c.promote, .int .i64 c.depth, .int .i64 c.width, .int .i64 c.top, .int .i64 c.key, .slice C n k, .slice T q j, .int .u64 c.seed]] W fun e w' => e = .returned (.int .i64 ce) ∧ Keeps (fun _ => False) W w')) :
    Calls Try.prog 29 #[Value.agg #[.int .i64 c.length, .int .i64 c.lateness, .int .i64 c.windows, .int .i64 c.shards, .int .i64 c.spread, .int .i64 c.queue, .int .i64 c.mode, .int .i64 c.slots, .int .i64 c.exact_, .int .u64 c.promote, .int .i64 c.depth, .int .i64 c.width, .int .i64 c.top, .int .i64 c.key, .slice C n k, .slice T q j, .int .u64 c.seed]] w fun e w' => e = .returned (.tuple #[.slice none 0 0, .int .i64 ce]) ∧ Keeps (fun _ => False) w w' := by
  have e4 : (ce == 0) = false := by simpa using hce
  have e4' : (ce != 0) = true := by simpa using hce
  have bX := hide (Blk.new w 28 #[.int .i64 c.length, .int .i64 c.lateness, .int .i64 c.windows, .int .i64 c.shards, .int .i64 c.spread, .int .i64 c.queue, .int .i64 c.mode, .int .i64 c.slots, .int .i64 c.exact_, .int .u64 c.promote, .int .i64 c.depth, .int .i64 c.width, .int .i64 c.top, .int .i64 c.key, .slice C n k, .slice T q j, .int .u64 c.seed])
  have kX := hide ((Keeps.refl (fun _ => False) w).alloc (.cells #[.int .i64 c.length, .int .i64 c.lateness, .int .i64 c.windows, .int .i64 c.shards, .int .i64 c.spread, .int .i64 c.queue, .int .i64 c.mode, .int .i64 c.slots, .int .i64 c.exact_, .int .u64 c.promote, .int .i64 c.depth, .int .i64 c.width, .int .i64 c.top, .int .i64 c.key, .slice C n k, .slice T q j, .int .u64 c.seed] 28))
  clear hce
  go_enter Try.func29, Try.ntmps29
  go_wp2_with (refine cfg_ld _ rfl bX.out rfl (by rfl) ?_; simp only [Act.put, List.setIfInBounds_toArray, List.set_cons_zero, List.set_cons_succ])
  refine (H.out _ kX.out).mono ?_
  rintro e w2 ⟨rfl, k2⟩
  have K2 := hide (kX.out.trans k2)
  clear k2
  go_wp2_with fail
  go_ret2
  exact ⟨rfl, K2.out⟩
set_option maxRecDepth 100000 in
set_option maxHeartbeats 1000000 in
theorem rdemand_bad (c : Cfg) (C T : Option Addr) (n k q j : Nat) (w : World) (ce : Int) (hce : ce ≠ 0) (H : Hid (∀ W, Keeps (fun _ => False) w W → Calls Try.prog 26 #[Value.agg #[.int .i64 c.length, .int .i64 c.lateness, .int .i64 c.windows, .int .i64 c.shards, .int .i64 c.spread, .int .i64 c.queue, .int .i64 c.mode, .int .i64 c.slots, .int .i64 c.exact_, .int .u64 c.promote, .int .i64 c.depth, .int .i64 c.width, .int .i64 c.top, .int .i64 c.key, .slice C n k, .slice T q j, .int .u64 c.seed]] W fun e w' => e = .returned (.int .i64 ce) ∧ Keeps (fun _ => False) W w')) :
    Calls Try.prog 30 #[Value.agg #[.int .i64 c.length, .int .i64 c.lateness, .int .i64 c.windows, .int .i64 c.shards, .int .i64 c.spread, .int .i64 c.queue, .int .i64 c.mode, .int .i64 c.slots, .int .i64 c.exact_, .int .u64 c.promote, .int .i64 c.depth, .int .i64 c.width, .int .i64 c.top, .int .i64 c.key, .slice C n k, .slice T q j, .int .u64 c.seed]] w fun e w' => e = .returned (.tuple #[.slice none 0 0, .int .i64 ce]) ∧ Keeps (fun _ => False) w w' := by
  have e4 : (ce == 0) = false := by simpa using hce
  have e4' : (ce != 0) = true := by simpa using hce
  have bX := hide (Blk.new w 28 #[.int .i64 c.length, .int .i64 c.lateness, .int .i64 c.windows, .int .i64 c.shards, .int .i64 c.spread, .int .i64 c.queue, .int .i64 c.mode, .int .i64 c.slots, .int .i64 c.exact_, .int .u64 c.promote, .int .i64 c.depth, .int .i64 c.width, .int .i64 c.top, .int .i64 c.key, .slice C n k, .slice T q j, .int .u64 c.seed])
  have kX := hide ((Keeps.refl (fun _ => False) w).alloc (.cells #[.int .i64 c.length, .int .i64 c.lateness, .int .i64 c.windows, .int .i64 c.shards, .int .i64 c.spread, .int .i64 c.queue, .int .i64 c.mode, .int .i64 c.slots, .int .i64 c.exact_, .int .u64 c.promote, .int .i64 c.depth, .int .i64 c.width, .int .i64 c.top, .int .i64 c.key, .slice C n k, .slice T q j, .int .u64 c.seed] 28))
  clear hce
  go_enter Try.func30, Try.ntmps30
  go_wp2_with (refine cfg_ld _ rfl bX.out rfl (by rfl) ?_; simp only [Act.put, List.setIfInBounds_toArray, List.set_cons_zero, List.set_cons_succ])
  refine (H.out _ kX.out).mono ?_
  rintro e w2 ⟨rfl, k2⟩
  have K2 := hide (kX.out.trans k2)
  clear k2
  go_wp2_with fail
  go_ret2
  exact ⟨rfl, K2.out⟩
set_option maxRecDepth 100000 in
set_option maxHeartbeats 1000000 in
theorem svalidate_bad (c : Cfg) (C T : Option Addr) (n k q j : Nat) (w : World) (ce : Int) (hce : ce ≠ 0) (H : Hid (∀ W, Keeps (fun _ => False) w W → Calls Try.prog 29 #[Value.agg #[.int .i64 c.length, .int .i64 c.lateness, .int .i64 c.windows, .int .i64 c.shards, .int .i64 c.spread, .int .i64 c.queue, .int .i64 c.mode, .int .i64 c.slots, .int .i64 c.exact_, .int .u64 c.promote, .int .i64 c.depth, .int .i64 c.width, .int .i64 c.top, .int .i64 c.key, .slice C n k, .slice T q j, .int .u64 c.seed]] W fun e w' => e = .returned (.tuple #[.slice none 0 0, .int .i64 ce]) ∧ Keeps (fun _ => False) W w')) :
    Calls Try.prog 27 #[Value.agg #[.int .i64 c.length, .int .i64 c.lateness, .int .i64 c.windows, .int .i64 c.shards, .int .i64 c.spread, .int .i64 c.queue, .int .i64 c.mode, .int .i64 c.slots, .int .i64 c.exact_, .int .u64 c.promote, .int .i64 c.depth, .int .i64 c.width, .int .i64 c.top, .int .i64 c.key, .slice C n k, .slice T q j, .int .u64 c.seed]] w fun e w' => e = .returned (.int .i64 ce) ∧ Keeps (fun _ => False) w w' := by
  have e4 : (ce == 0) = false := by simpa using hce
  have e4' : (ce != 0) = true := by simpa using hce
  have bX := hide (Blk.new w 28 #[.int .i64 c.length, .int .i64 c.lateness, .int .i64 c.windows, .int .i64 c.shards, .int .i64 c.spread, .int .i64 c.queue, .int .i64 c.mode, .int .i64 c.slots, .int .i64 c.exact_, .int .u64 c.promote, .int .i64 c.depth, .int .i64 c.width, .int .i64 c.top, .int .i64 c.key, .slice C n k, .slice T q j, .int .u64 c.seed])
  have kX := hide ((Keeps.refl (fun _ => False) w).alloc (.cells #[.int .i64 c.length, .int .i64 c.lateness, .int .i64 c.windows, .int .i64 c.shards, .int .i64 c.spread, .int .i64 c.queue, .int .i64 c.mode, .int .i64 c.slots, .int .i64 c.exact_, .int .u64 c.promote, .int .i64 c.depth, .int .i64 c.width, .int .i64 c.top, .int .i64 c.key, .slice C n k, .slice T q j, .int .u64 c.seed] 28))
  clear hce
  go_enter Try.func27, Try.ntmps27
  go_wp2_with (refine cfg_ld _ rfl bX.out rfl (by rfl) ?_; simp only [Act.put, List.setIfInBounds_toArray, List.set_cons_zero, List.set_cons_succ])
  refine (H.out _ kX.out).mono ?_
  rintro e w2 ⟨rfl, k2⟩
  have K2 := hide (kX.out.trans k2)
  clear k2
  go_wp2_with fail
  go_ret
  exact ⟨rfl, K2.out⟩
set_option maxRecDepth 100000 in
set_option maxHeartbeats 1000000 in
theorem rvalidate_bad (c : Cfg) (C T : Option Addr) (n k q j : Nat) (w : World) (ce : Int) (hce : ce ≠ 0) (H : Hid (∀ W, Keeps (fun _ => False) w W → Calls Try.prog 30 #[Value.agg #[.int .i64 c.length, .int .i64 c.lateness, .int .i64 c.windows, .int .i64 c.shards, .int .i64 c.spread, .int .i64 c.queue, .int .i64 c.mode, .int .i64 c.slots, .int .i64 c.exact_, .int .u64 c.promote, .int .i64 c.depth, .int .i64 c.width, .int .i64 c.top, .int .i64 c.key, .slice C n k, .slice T q j, .int .u64 c.seed]] W fun e w' => e = .returned (.tuple #[.slice none 0 0, .int .i64 ce]) ∧ Keeps (fun _ => False) W w')) :
    Calls Try.prog 28 #[Value.agg #[.int .i64 c.length, .int .i64 c.lateness, .int .i64 c.windows, .int .i64 c.shards, .int .i64 c.spread, .int .i64 c.queue, .int .i64 c.mode, .int .i64 c.slots, .int .i64 c.exact_, .int .u64 c.promote, .int .i64 c.depth, .int .i64 c.width, .int .i64 c.top, .int .i64 c.key, .slice C n k, .slice T q j, .int .u64 c.seed]] w fun e w' => e = .returned (.int .i64 ce) ∧ Keeps (fun _ => False) w w' := by
  have e4 : (ce == 0) = false := by simpa using hce
  have e4' : (ce != 0) = true := by simpa using hce
  have bX := hide (Blk.new w 28 #[.int .i64 c.length, .int .i64 c.lateness, .int .i64 c.windows, .int .i64 c.shards, .int .i64 c.spread, .int .i64 c.queue, .int .i64 c.mode, .int .i64 c.slots, .int .i64 c.exact_, .int .u64 c.promote, .int .i64 c.depth, .int .i64 c.width, .int .i64 c.top, .int .i64 c.key, .slice C n k, .slice T q j, .int .u64 c.seed])
  have kX := hide ((Keeps.refl (fun _ => False) w).alloc (.cells #[.int .i64 c.length, .int .i64 c.lateness, .int .i64 c.windows, .int .i64 c.shards, .int .i64 c.spread, .int .i64 c.queue, .int .i64 c.mode, .int .i64 c.slots, .int .i64 c.exact_, .int .u64 c.promote, .int .i64 c.depth, .int .i64 c.width, .int .i64 c.top, .int .i64 c.key, .slice C n k, .slice T q j, .int .u64 c.seed] 28))
  clear hce
  go_enter Try.func28, Try.ntmps28
  go_wp2_with (refine cfg_ld _ rfl bX.out rfl (by rfl) ?_; simp only [Act.put, List.setIfInBounds_toArray, List.set_cons_zero, List.set_cons_succ])
  refine (H.out _ kX.out).mono ?_
  rintro e w2 ⟨rfl, k2⟩
  have K2 := hide (kX.out.trans k2)
  clear k2
  go_wp2_with fail
  go_ret
  exact ⟨rfl, K2.out⟩
theorem valid_of {c : Cfg} {l : List (Int × Int)} {q : Nat} (h : configE c l q = 0) (hp : 0 ≤ c.promote ∧ c.promote < 18446744073709551616) (hs : 0 ≤ c.seed ∧ c.seed < 18446744073709551616) : Fine c ∧ q = 16 ∧ classesE l = 0 ∧ Room c l := by
  obtain ⟨h1, h2, h3, h4, h5⟩ := config_ok h
  obtain ⟨hf, hq⟩ := fine_of h1 h2 h3 hp hs
  exact ⟨hf, hq, h4, room_of h4 (by omega)⟩
/-- what Demand gives of any configuration -/
def DemandA (w : World) (n : Nat) (c : Cfg) (l : List (Int × Int)) (q : Nat) (e : Ending) (w' : World) : Prop :=
  (configE c l q = 0 ∧ Demands w n (demand0 c l) e w') ∨ (configE c l q ≠ 0 ∧ e = .returned (.tuple #[.slice none 0 0, .int .i64 (configE c l q)]) ∧ Keeps (fun _ => False) w w')
section
variable (c : Cfg) (C T : Option Addr) (n k q j : Nat) (w : World) (l : List (Int × Int)) (hw : Wide l) (hp : 0 ≤ c.promote ∧ c.promote < 18446744073709551616) (hs : 0 ≤ c.seed ∧ c.seed < 18446744073709551616) (B : Nat) (hr : Rd w B C 2 n (prs l)) (hB : B ≤ w.heap.size) (hn : n ≤ 1000)
include hw hp hs hr hB hn
theorem stracked_any : Calls Try.prog 31 #[Value.agg #[.int .i64 c.length, .int .i64 c.lateness, .int .i64 c.windows, .int .i64 c.shards, .int .i64 c.spread, .int .i64 c.queue, .int .i64 c.mode, .int .i64 c.slots, .int .i64 c.exact_, .int .u64 c.promote, .int .i64 c.depth, .int .i64 c.width, .int .i64 c.top, .int .i64 c.key, .slice C n k, .slice T q j, .int .u64 c.seed]] w fun e w' => e = .returned (.int .i64 (tracked c l q)) ∧ Keeps (fun _ => False) w w' := by
  unfold tracked
  by_cases h : configE c l q = 0
  · obtain ⟨hf, rfl, h4, hm⟩ := valid_of h hp hs
    rw [if_pos h]
    exact stracked_ok c hf l h4 hm C T n k j B w (by rw [clv_prs]; exact hr) hB
  · rw [if_neg h]
    exact stracked_bad c C T n k q j w _ h (hide (fun W kW => scheck_any c C T n k q j W l hw hp hs B (hr.kept kW (fun _ _ h => h)) (Nat.le_trans hB kW.size) hn))
theorem rtracked_any : Calls Try.prog 32 #[Value.agg #[.int .i64 c.length, .int .i64 c.lateness, .int .i64 c.windows, .int .i64 c.shards, .int .i64 c.spread, .int .i64 c.queue, .int .i64 c.mode, .int .i64 c.slots, .int .i64 c.exact_, .int .u64 c.promote, .int .i64 c.depth, .int .i64 c.width, .int .i64 c.top, .int .i64 c.key, .slice C n k, .slice T q j, .int .u64 c.seed]] w fun e w' => e = .returned (.int .i64 (tracked c l q)) ∧ Keeps (fun _ => False) w w' := by
  unfold tracked
  by_cases h : configE c l q = 0
  · obtain ⟨hf, rfl, h4, hm⟩ := valid_of h hp hs
    rw [if_pos h]
    exact tracked_ok c hf l h4 hm C T n k j B w (by rw [clv_prs]; exact hr) hB
  · rw [if_neg h]
    exact rtracked_bad c C T n k q j w _ h (hide (fun W kW => rconfig_any c C T n k q j W l hw hp hs B (hr.kept kW (fun _ _ h => h)) (Nat.le_trans hB kW.size) hn))
theorem sdemand_any : Calls Try.prog 29 #[Value.agg #[.int .i64 c.length, .int .i64 c.lateness, .int .i64 c.windows, .int .i64 c.shards, .int .i64 c.spread, .int .i64 c.queue, .int .i64 c.mode, .int .i64 c.slots, .int .i64 c.exact_, .int .u64 c.promote, .int .i64 c.depth, .int .i64 c.width, .int .i64 c.top, .int .i64 c.key, .slice C n k, .slice T q j, .int .u64 c.seed]] w (DemandA w n c l q) := by
  by_cases h : configE c l q = 0
  · obtain ⟨hf, rfl, h4, hm⟩ := valid_of h hp hs
    exact (sdemand_ok c hf l h4 hm C T n k j B w (by rw [clv_prs]; exact hr) hB).mono fun e w' h1 => .inl ⟨h, h1⟩
  · exact (sdemand_bad c C T n k q j w _ h (hide (fun W kW => scheck_any c C T n k q j W l hw hp hs B (hr.kept kW (fun _ _ h => h)) (Nat.le_trans hB kW.size) hn))).mono fun e w' h1 => .inr ⟨h, h1⟩
theorem rdemand_any : Calls Try.prog 30 #[Value.agg #[.int .i64 c.length, .int .i64 c.lateness, .int .i64 c.windows, .int .i64 c.shards, .int .i64 c.spread, .int .i64 c.queue, .int .i64 c.mode, .int .i64 c.slots, .int .i64 c.exact_, .int .u64 c.promote, .int .i64 c.depth, .int .i64 c.width, .int .i64 c.top, .int .i64 c.key, .slice C n k, .slice T q j, .int .u64 c.seed]] w (DemandA w n c l q) := by
  by_cases h : configE c l q = 0
  · obtain ⟨hf, rfl, h4, hm⟩ := valid_of h hp hs
    exact (demand_ok c hf l h4 hm C T n k j B w (by rw [clv_prs]; exact hr) hB).mono fun e w' h1 => .inl ⟨h, h1⟩
  · exact (rdemand_bad c C T n k q j w _ h (hide (fun W kW => rconfig_any c C T n k q j W l hw hp hs B (hr.kept kW (fun _ _ h => h)) (Nat.le_trans hB kW.size) hn))).mono fun e w' h1 => .inr ⟨h, h1⟩
theorem svalidate_any : Calls Try.prog 27 #[Value.agg #[.int .i64 c.length, .int .i64 c.lateness, .int .i64 c.windows, .int .i64 c.shards, .int .i64 c.spread, .int .i64 c.queue, .int .i64 c.mode, .int .i64 c.slots, .int .i64 c.exact_, .int .u64 c.promote, .int .i64 c.depth, .int .i64 c.width, .int .i64 c.top, .int .i64 c.key, .slice C n k, .slice T q j, .int .u64 c.seed]] w fun e w' => e = .returned (.int .i64 (validE c l q)) ∧ Keeps (fun _ => False) w w' := by
  unfold validE
  by_cases h : configE c l q = 0
  · obtain ⟨hf, rfl, h4, hm⟩ := valid_of h hp hs
    rw [if_pos h]
    exact svalidate_ok c hf l h4 hm C T n k j B w (by rw [clv_prs]; exact hr) hB
  · rw [if_neg h]
    exact svalidate_bad c C T n k q j w _ h (hide (fun W kW => sdemand_bad c C T n k q j W _ h (hide (fun W' kW' => scheck_any c C T n k q j W' l hw hp hs B (hr.kept (kW.trans kW') (fun _ _ h => h)) (Nat.le_trans hB (kW.trans kW').size) hn))))
theorem rvalidate_any : Calls Try.prog 28 #[Value.agg #[.int .i64 c.length, .int .i64 c.lateness, .int .i64 c.windows, .int .i64 c.shards, .int .i64 c.spread, .int .i64 c.queue, .int .i64 c.mode, .int .i64 c.slots, .int .i64 c.exact_, .int .u64 c.promote, .int .i64 c.depth, .int .i64 c.width, .int .i64 c.top, .int .i64 c.key, .slice C n k, .slice T q j, .int .u64 c.seed]] w fun e w' => e = .returned (.int .i64 (validE c l q)) ∧ Keeps (fun _ => False) w w' := by
  unfold validE
  by_cases h : configE c l q = 0
  · obtain ⟨hf, rfl, h4, hm⟩ := valid_of h hp hs
    rw [if_pos h]
    exact rvalidate_ok c hf l h4 hm C T n k j B w (by rw [clv_prs]; exact hr) hB
  · rw [if_neg h]
    exact rvalidate_bad c C T n k q j w _ h (hide (fun W kW => rdemand_bad c C T n k q j W _ h (hide (fun W' kW' => rconfig_any c C T n k q j W' l hw hp hs B (hr.kept (kW.trans kW') (fun _ _ h => h)) (Nat.le_trans hB (kW.trans kW').size) hn))))
end
end Go.Proofs.Ytgjlibecgkhocaa
