/-
  summary.rows by its contract. No conditions beyond those of the statement.
-/
import Derived.Test.YtaiopdipldaimaaYm
set_option linter.unusedVariables false
set_option linter.unusedSimpArgs false
namespace Go.Proofs.Ytaiopdipldaimaa
open Go.RowKit Cfp
theorem rowsL_get {F : RowsF} {m j : Nat} (h : j < m) : (Cmp.rowsL F m)[j]? = some (F j).2.2.2 := by simp [Cmp.rowsL, h]
theorem rowsL_any (F : RowsF) (m : Nat) (p : List Int → Bool) : (Cmp.rowsL F m).any p = true ↔ ∃ j, j < m ∧ p (F j).2.2.2 = true := by
  unfold Cmp.rowsL
  rw [List.any_eq_true]
  constructor
  · rintro ⟨r, hr, hp⟩
    obtain ⟨j, hj, rfl⟩ := List.mem_map.1 hr
    exact ⟨j, List.mem_range.1 hj, hp⟩
  · rintro ⟨j, hj, hp⟩
    exact ⟨_, List.mem_map.2 ⟨j, List.mem_range.2 hj, rfl⟩, hp⟩
set_option maxRecDepth 100000 in
set_option maxHeartbeats 1000000 in
theorem rows_any21 (w : World) (B : Nat) (c : Cfg) (C T : Option Addr) (n0 k0 q j : Nat) (tot un : Int) (A R : Option Addr) (n cA m cR : Nat) (l : List Ln) (F : RowsF) (h : SmIn w B A n l R m F) (hB : B ≤ w.heap.size) :
    Calls Try.prog 70 #[Value.agg #[.int .i64 c.length, .int .i64 c.lateness, .int .i64 c.windows, .int .i64 c.shards, .int .i64 c.spread, .int .i64 c.queue, .int .i64 c.mode, .int .i64 c.slots, .int .i64 c.exact_, .int .u64 c.promote, .int .i64 c.depth, .int .i64 c.width, .int .i64 c.top, .int .i64 c.key, .slice C n0 k0, .slice T q j, .int .u64 c.seed], smV tot A n cA un R m cR] w fun e w' => e = .returned (.int .i64 (rowsE c.depth c.width tot (Cmp.rowsL F m))) ∧ Keeps (fun _ => False) w w' := by
  obtain ⟨w2, hw2⟩ : ∃ w2, w2 = (w.alloc (.cells #[.int .i64 c.length, .int .i64 c.lateness, .int .i64 c.windows, .int .i64 c.shards, .int .i64 c.spread, .int .i64 c.queue, .int .i64 c.mode, .int .i64 c.slots, .int .i64 c.exact_, .int .u64 c.promote, .int .i64 c.depth, .int .i64 c.width, .int .i64 c.top, .int .i64 c.key, .slice C n0 k0, .slice T q j, .int .u64 c.seed] 51)).alloc (.cells (smC tot A n cA un R m cR) 45) := ⟨_, rfl⟩
  have k2 : Keeps (fun _ => False) w w2 := by rw [hw2]; exact ((Keeps.refl _ _).alloc _).alloc _
  have b2 : Blk w2 w.heap.size 51 #[.int .i64 c.length, .int .i64 c.lateness, .int .i64 c.windows, .int .i64 c.shards, .int .i64 c.spread, .int .i64 c.queue, .int .i64 c.mode, .int .i64 c.slots, .int .i64 c.exact_, .int .u64 c.promote, .int .i64 c.depth, .int .i64 c.width, .int .i64 c.top, .int .i64 c.key, .slice C n0 k0, .slice T q j, .int .u64 c.seed] := by rw [hw2]; exact (Blk.new _ _ _).alloc _
  have b3 : Blk w2 (w.heap.size + 1) 45 (smC tot A n cA un R m cR) := by rw [hw2]; exact Blk.new_at _ _ _ _ (by simp)
  have h2 := h.kept k2 (fun _ _ h => h)
  have d10 : w2.cell? ⟨w.heap.size, 10, none⟩ = some (.int .i64 c.depth) := b2.cell 10
  have d11 := hide (show w2.cell? ⟨w.heap.size, 11, none⟩ = some (.int .i64 c.width) from b2.cell 11)
  have s0 := hide (show w2.cell? ⟨w.heap.size + 1, 0, none⟩ = some (.int .u64 tot) from b3.cell 0)
  have s3 : w2.cell? ⟨w.heap.size + 1, 3, none⟩ = some (.slice R m cR) := b3.cell 3
  have S3 := hide s3
  obtain ⟨rv, hrv⟩ : ∃ v, v = rowsE c.depth c.width tot (Cmp.rowsL F m) := ⟨_, rfl⟩
  rw [← hrv]
  have HRV := hide hrv
  have HH := hide h2
  have K2 := hide k2
  have HW2 := hide hw2
  have hm1 := h.m1
  have hml : (Cmp.rowsL F m).length = m := Cmp.rowsL_len F m
  have HML := hide hml
  clear hrv hw2 k2 b2 b3 h2 h hml
  by_cases e0 : m = 0
  · have HV : Hid (rv = 0) := hide (by rw [HRV.out]; unfold rowsE; rw [HML.out, if_pos e0])
    have e1 : ((m : Int) == 0) = true := by simp [e0]
    clear HRV e0
    go_enter Try.func70, Try.ntmps70
    go_upto_region 1 with fail
    rw [← HW2.out]
    go_wp2_with fail
    go_ret
    exact ⟨ret_int HV.out.symm, K2.out⟩
  have e1 : ((m : Int) == 0) = false := by simp [e0]
  by_cases e2 : (m : Int) = c.depth
  rotate_left
  · have HV : Hid (rv = 3) := hide (by rw [HRV.out]; unfold rowsE; rw [HML.out, if_neg e0, if_pos e2])
    have e3 : ((m : Int) != c.depth) = true := by simp [e2]
    clear HRV e0 e2
    go_enter Try.func70, Try.ntmps70
    go_upto_region 1 with fail
    rw [← HW2.out]
    go_wp2_with fail
    go_ret
    exact ⟨ret_int HV.out.symm, K2.out⟩
  have e3 : ((m : Int) != c.depth) = false := by simp [e2]
  have HV : Hid (rv = if (Cmp.rowsL F m).any (fun r => (r.length : Int) != c.width) = true then 3 else if (Cmp.rowsL F m).any (fun r => r.any (fun z => decide (tot < z))) = true then 1 else 0) := hide (by rw [HRV.out]; unfold rowsE; rw [HML.out, if_neg e0, if_neg (by simp [e2])])
  have HLn : Hid (∀ i, i < m → (F i).2.2.2.length = (F i).2.1) := hide (fun i hi => by have := (HH.out.rrd i hi).1.1; simpa using this)
  obtain ⟨wd, hwd⟩ : ∃ wd, wd = c.width := ⟨_, rfl⟩
  rw [← hwd] at HV d11
  clear HRV e0 e2 hwd
  go_enter Try.func70, Try.ntmps70
  go_upto_region 1 with fail
  rw [← HW2.out]
  clear HW2
  generalize hgs : w.heap.size = gs at *
  go_wp2_with fail
  trace "LOOPA"
  go_loopw [22] (fun iv wr => ∃ i : Nat, i ≤ m ∧ iv = .int .i64 i ∧ Hid (∀ j, j < i → ((F j).2.1 : Int) = wd) ∧ Hid (Keeps (fun _ => False) w2 wr)) (fun iv _ => m - (intOf iv).toNat)
  case atStart => exact ⟨0, by omega, rfl, hide (fun j h => by omega), hide (Keeps.refl _ _)⟩
  case round =>
    obtain ⟨i, hi, rfl, HJ, KR⟩ := hrel
    by_cases hlt : i < m
    · have HLT : Hid (i + 1 ≤ m) := hlt
      obtain ⟨b, off, rfl, hbB, hc⟩ := (HH.out.rows.kept KR.out (fun _ _ h => h)).2 (by omega)
      have c0 := hc i (.slice (F i).1 (F i).2.1 (F i).2.2.1) (by simp [hlt])
      have hiI : (i : Int) < (m : Int) := by omega
      have hi0 : (0 : Int) ≤ (i : Int) := by omega
      have w11 := KR.out.cell_some d11.out (fun h => h)
      obtain ⟨rl, hrl⟩ : ∃ rl, rl = (F i).2.1 := ⟨_, rfl⟩
      rw [← hrl] at c0
      have HRL := hide hrl
      have HI := hide hlt
      clear hc hrl
      by_cases hs : (rl : Int) = wd
      · have e4 : ((rl : Int) != wd) = false := by simp [hs]
        have HS : Hid ((rl : Int) = wd) := hide hs
        clear hs
        go_wp2_with fail
        go_roundw
        case rel =>
          refine ⟨i + 1, HLT.out, by go_num, hide (fun j hj => ?_), KR⟩
          rcases Nat.lt_or_ge j i with h | h
          · exact HJ.out j h
          · obtain rfl : j = i := by omega
            rw [← HRL.out]; exact HS.out
        case measure => have := HLT.out; simp [intOf]; omega
      · have e4 : ((rl : Int) != wd) = true := by simp [hs]
        have HR3 : Hid (rv = 3) := hide (by rw [HV.out, if_pos ((rowsL_any F m _).2 ⟨i, HI.out, by rw [HLn.out i HI.out, ← HRL.out]; exact e4⟩)])
        clear hs
        go_wp2_with fail
        go_ret
        exact ⟨ret_int HR3.out.symm, K2.out.trans KR.out⟩
    · obtain rfl : i = m := by omega
      have HV2 : Hid (rv = if (Cmp.rowsL F i).any (fun r => r.any (fun z => decide (tot < z))) = true then 1 else 0) := hide (by
        rw [HV.out, if_neg]
        intro he
        obtain ⟨j, hj, hp⟩ := (rowsL_any F i _).1 he
        rw [HLn.out j hj] at hp
        simp [HJ.out j hj] at hp)
      have KX := hide (K2.out.trans KR.out)
      have HHr := hide (HH.out.kept KR.out (fun _ _ h => h))
      have s3' := KR.out.cell_some S3.out (fun h => h)
      have s0' := hide (KR.out.cell_some s0.out (fun h => h))
      have S3' := hide s3'
      obtain ⟨wx, rfl⟩ : ∃ wx : World, wx = wr := ⟨_, rfl⟩
      have hmf : ∀ (fn : Fn) (first cap : Array Value) (w : World), (Instr.makeFunc fn first cap).run Try.prog w = .ok (.func fn first cap) w := fun _ _ _ _ => rfl
      clear HV HJ KR K2 HH d11 s0 S3
      go_wp2_with fail
      trace "LOOPB"
      go_loopw [35] (fun iv wr => ∃ t : Nat, t ≤ i ∧ iv = .int .i64 t ∧ Hid (∀ j, j < t → (F j).2.2.2.any (fun z => decide (tot < z)) = false) ∧ Hid (Keeps (fun _ => False) wx wr)) (fun iv _ => i - (intOf iv).toNat)
      case atStart => exact ⟨0, by omega, rfl, hide (fun j h => by omega), hide (Keeps.refl _ _)⟩
      case round =>
        obtain ⟨t, ht, rfl, HJ, KR⟩ := hrel
        by_cases hlt : t < i
        · have HLT : Hid (t + 1 ≤ i) := hlt
          obtain ⟨b, off, rfl, hbB, hc⟩ := (HHr.out.rows.kept KR.out (fun _ _ h => h)).2 (by omega)
          have c0 := hc t (.slice (F t).1 (F t).2.1 (F t).2.2.1) (by simp [hlt])
          have hiI : (t : Int) < (i : Int) := by omega
          have hi0 : (0 : Int) ≤ (t : Int) := by omega
          have hrt := HHr.out.rrd t hlt
          have HCt := hide (fun W (kW : Keeps (fun _ => False) wr W) => contU_any B (F t).1 (F t).2.2.2 (F t).2.1 (F t).2.2.1 tot (gs + 1) W ((hrt.1.kept KR.out (fun _ _ h => h)).kept kW (fun _ _ h => h)) ((KR.out.trans kW).cell_some s0'.out (fun h => h)) (by have := hrt.2.2; omega))
          have HI := hide hlt
          obtain ⟨bv, hbv⟩ : ∃ bv, bv = (F t).2.2.2.any (fun z => decide (tot < z)) := ⟨_, rfl⟩
          rw [← hbv] at HCt
          have HBV := hide hbv
          clear hc hrt hbv
          go_wp2_with fail
          refine (HCt.out _ (Keeps.refl _ _)).mono ?_
          rintro e w5 ⟨rfl, k5⟩
          have K5 := hide (KR.out.trans k5)
          clear k5 HCt
          rcases bv with _ | _
          · go_wp2_with fail
            go_roundw
            case rel =>
              refine ⟨t + 1, HLT.out, by go_num, hide (fun j hj => ?_), K5⟩
              rcases Nat.lt_or_ge j t with h | h
              · exact HJ.out j h
              · obtain rfl : j = t := by omega
                exact HBV.out.symm
            case measure => have := HLT.out; simp [intOf]; omega
          · have HR1 : Hid (rv = 1) := hide (by rw [HV2.out, if_pos ((rowsL_any F i _).2 ⟨t, HI.out, HBV.out.symm⟩)])
            go_wp2_with fail
            go_ret
            exact ⟨ret_int HR1.out.symm, KX.out.trans K5.out⟩
        · obtain rfl : t = i := by omega
          have HR0 : Hid (rv = 0) := hide (by
            rw [HV2.out, if_neg]
            intro he
            obtain ⟨j, hj, hp⟩ := (rowsL_any F t _).1 he
            rw [HJ.out j hj] at hp
            cases hp)
          go_wp2_with fail
          go_ret
          exact ⟨ret_int HR0.out.symm, KX.out.trans KR.out⟩
end Go.Proofs.Ytaiopdipldaimaa
