/-
  Routing of valid configurations: the shards of a key.
-/
import Derived.Test.YtgjlibecgkhocaaRt
set_option linter.unusedVariables false
set_option linter.unusedSimpArgs false
namespace Go.Proofs.Ytgjlibecgkhocaa
open Go.RowKit Cfp

theorem sub_arr (G sp : Nat) (hs : sp ≤ 8) (w : World) : (Instr.sliceAt 73 (.pointer (some ⟨G, 0, none⟩)) none (some (.int .i64 (sp : Int))) (some (.int .i64 (sp : Int)))).run Try.prog w = .ok (.slice (some ⟨G, 0, none⟩) sp sp) w := by
  have ht : Try.prog.underlying 73 = some (.array 8 3) := by first | exact Try.underlying73 | kernel_rfl
  have hi : (Try.prog.info? 3).map (fun i => (i.zero, i.size, i.bytes)) = some (some (.int .i64 0), 1, 8) := by kernel_rfl
  obtain ⟨i, h1, h2, h3, h4⟩ := info_parts hi
  have hb1 : ∀ code w', (Instr.sliceBound (.int .i64 (sp : Int)) 8 code).run Try.prog w' = .ok sp w' := fun code w' => by
    rw [run_sliceBound _ _ _ _ _ (by omega) (by omega)]; simp
  have hb2 : ∀ code w', (Instr.sliceBound (.int .i64 (sp : Int)) sp code).run Try.prog w' = .ok sp w' := fun code w' => by
    rw [run_sliceBound _ _ _ _ _ (by omega) (by omega)]; simp
  simp [Instr.sliceAt, Instr.sureAddr, run_underlying ht, Instr.sliceBounds, sizeOf, typeInfo, h1, h3, hs, Addr.add, hb1, hb2]

set_option maxRecDepth 100000 in
set_option maxHeartbeats 600000 in
theorem set_ok (c : Cfg) (h : Rtd c) (C T : Option Addr) (n k j B : Nat) (w : World) (zs : List Int) (hz : ∀ z ∈ zs, 0 ≤ z ∧ z < 18446744073709551616) (hr : Rd w B T 1 16 (zs.map (.int .u64))) (s : ByteArray) (hs : s.size ≤ 140737488351232) :
    Calls Try.prog 19 #[Value.agg #[.int .i64 c.length, .int .i64 c.lateness, .int .i64 c.windows, .int .i64 c.shards, .int .i64 c.spread, .int .i64 c.queue, .int .i64 c.mode, .int .i64 c.slots, .int .i64 c.exact_, .int .u64 c.promote, .int .i64 c.depth, .int .i64 c.width, .int .i64 c.top, .int .i64 c.key, .slice C n k, .slice T 16 j, .int .u64 c.seed], .string s] w (Lists w (setOf c (homeOf c zs s) c.spread.toNat)) := by
  have h1 := h.shards
  have h2 := h.spread
  have hb := home_bd c h zs s
  have HH := hide (fun W (hr : Rd W B T 1 16 (zs.map (.int .u64))) => home_ok c h C T n k j B W zs hz hr s hs)
  have CH := hide (fun W => rtcheck_ok c h C T n k j W)
  obtain ⟨hm, hhm⟩ : ∃ hm, hm = homeOf c zs s := ⟨_, rfl⟩
  rw [← hhm] at HH hb ⊢
  have HB := hide (setOf_bd c h hm)
  have HR := hide hr
  obtain ⟨sp, hsp⟩ : ∃ sp : Nat, c.spread = (sp : Int) := ⟨c.spread.toNat, by omega⟩
  have HSP := hide hsp
  have hst : c.spread.toNat = sp := by omega
  rw [hst]
  clear hst
  rw [hsp] at h2
  clear hr hhm hsp
  go_enter Try.func19, Try.ntmps19
  go_wp2_with fail
  refine (CH.out _).mono ?_
  rintro e w1 ⟨rfl, hw1⟩
  have b1 := Blk.new w 28 #[.int .i64 c.length, .int .i64 c.lateness, .int .i64 c.windows, .int .i64 c.shards, .int .i64 c.spread, .int .i64 c.queue, .int .i64 c.mode, .int .i64 c.slots, .int .i64 c.exact_, .int .u64 c.promote, .int .i64 c.depth, .int .i64 c.width, .int .i64 c.top, .int .i64 c.key, .slice C n k, .slice T 16 j, .int .u64 c.seed]
  have k1 : Keeps (fun _ => False) (w.alloc (.cells #[.int .i64 c.length, .int .i64 c.lateness, .int .i64 c.windows, .int .i64 c.shards, .int .i64 c.spread, .int .i64 c.queue, .int .i64 c.mode, .int .i64 c.slots, .int .i64 c.exact_, .int .u64 c.promote, .int .i64 c.depth, .int .i64 c.width, .int .i64 c.top, .int .i64 c.key, .slice C n k, .slice T 16 j, .int .u64 c.seed] 28)) w1 := by rw [hw1]; exact (Keeps.refl _ _).alloc _
  have K1 := hide (((Keeps.refl (fun _ => False) w).alloc (.cells #[.int .i64 c.length, .int .i64 c.lateness, .int .i64 c.windows, .int .i64 c.shards, .int .i64 c.spread, .int .i64 c.queue, .int .i64 c.mode, .int .i64 c.slots, .int .i64 c.exact_, .int .u64 c.promote, .int .i64 c.depth, .int .i64 c.width, .int .i64 c.top, .int .i64 c.key, .slice C n k, .slice T 16 j, .int .u64 c.seed] 28)).trans k1)
  have kA := (Keeps.refl (fun _ => False) w1).alloc (.cells #[.int .i64 0, .int .i64 0, .int .i64 0, .int .i64 0, .int .i64 0, .int .i64 0, .int .i64 0, .int .i64 0] 73)
  have bb := b1.kept k1 (fun h => h)
  have B1 := hide (bb.kept kA (fun h => h))
  have A1 := hide (Blk.new w1 73 #[.int .i64 0, .int .i64 0, .int .i64 0, .int .i64 0, .int .i64 0, .int .i64 0, .int .i64 0, .int .i64 0])
  have K2 := hide (K1.out.trans kA)
  have HR2 := hide (HR.out.kept K2.out (fun _ _ h => h))
  have hwl := bb.lt
  clear b1 k1 hw1 HR kA bb
  go_upto_region 4 with fail
  trace "REG4"
  generalize w1.alloc (.cells #[.int .i64 0, .int .i64 0, .int .i64 0, .int .i64 0, .int .i64 0, .int .i64 0, .int .i64 0, .int .i64 0] 73) = w2 at *
  have hGw : w.heap.size ≤ w1.heap.size := by omega
  generalize w1.heap.size = G at *
  go_wp2_with (refine cfg_ld _ rfl B1.out rfl (by rfl) ?_; simp only [Act.put, List.setIfInBounds_toArray, List.set_cons_zero, List.set_cons_succ])
  refine (HH.out _ HR2.out).mono ?_
  rintro e w3 ⟨rfl, k3⟩
  have K3 := hide (K2.out.trans k3)
  have B3 := hide (B1.out.kept k3 (fun h => h))
  have A3 := hide (A1.out.kept k3 (fun h => h))
  have q4 : w3.cell? ⟨w.heap.size, 4, none⟩ = some (.int .i64 c.spread) := B3.out.cell 4
  rw [HSP.out] at q4
  clear k3 K2 B1 A1 HR2 HH CH
  go_wp2_with fail
  trace "LOOP"
  go_loopw [7, 16] (fun _ iv wr => ∃ (i : Nat) (vs : List Int), i ≤ sp ∧ iv = .int .i64 i ∧ Hid (vs.length = 8) ∧ Hid (∀ q, q < i → vs.getD q 0 = (hm + (q : Int)) % c.shards) ∧ Blk wr G 73 (vs.map (.int .i64)).toArray ∧ Blk wr w.heap.size 28 #[.int .i64 c.length, .int .i64 c.lateness, .int .i64 c.windows, .int .i64 c.shards, .int .i64 c.spread, .int .i64 c.queue, .int .i64 c.mode, .int .i64 c.slots, .int .i64 c.exact_, .int .u64 c.promote, .int .i64 c.depth, .int .i64 c.width, .int .i64 c.top, .int .i64 c.key, .slice C n k, .slice T 16 j, .int .u64 c.seed] ∧ Keeps (fun _ => False) w wr) (fun _ iv _ => sp - (intOf iv).toNat)
  case atStart => exact ⟨0, [0, 0, 0, 0, 0, 0, 0, 0], by omega, rfl, by rfl, fun q hq => by omega, A3.out, B3.out, K3.out⟩
  case round =>
    obtain ⟨i, vs, hi, rfl, HV, HQ, ab, bb, kp⟩ := hrel
    have AB := hide ab
    have BB := hide bb
    have KP := hide kp
    have hGl := ab.lt
    have q3 : wr.cell? ⟨w.heap.size, 3, none⟩ = some (.int .i64 c.shards) := bb.cell 3
    have q4' : wr.cell? ⟨w.heap.size, 4, none⟩ = some (.int .i64 c.spread) := bb.cell 4
    rw [HSP.out] at q4'
    clear ab bb kp A3 B3 K3 q4
    by_cases hlt : i < sp
    · have hc := AB.out.cell i
      have hf := AB.out.frozen i
      have hvl := HV.out
      obtain ⟨v, hv⟩ : ∃ v, v = vs.getD i 0 := ⟨_, rfl⟩
      have hc' : wr.cell? ⟨G, i, none⟩ = some (.int .i64 v) := by rw [hc, hv]; simp [List.getD, show i < vs.length by omega]
      have hi0 : (0 : Int) ≤ (i : Int) := by omega
      have hi1 : (i : Int) < 8 := by omega
      have hltI : (i : Int) < (sp : Int) := by omega
      have hw1 : IntKind.i64.wrap (hm + (i : Int)) = hm + (i : Int) := IntWalk.i64_in _ (by omega)
      have hrm : (hm + (i : Int)).tmod c.shards = (hm + (i : Int)) % c.shards := Int.tmod_eq_emod_of_nonneg (by omega)
      have hbi := HB.out i
      have hw2 : IntKind.i64.wrap ((hm + (i : Int)) % c.shards) = (hm + (i : Int)) % c.shards := IntWalk.i64_in _ (by omega)
      clear hc hv hvl
      go_wp2_with fail
      trace "ROUND"
      have HVL := HV.out
      go_roundw
      case rel =>
        refine ⟨i + 1, vs.set i ((hm + (i : Int)) % c.shards), by omega, by go_num, by show _ = _; simp [HVL], ?_, ?_, ?_, ?_⟩
        · intro q hq
          by_cases hqi : q = i
          · subst hqi
            simp [List.getD, List.getElem?_set, show q < vs.length by omega]
          · have := HQ.out q (by omega)
            simp only [List.getD, List.getElem?_set, if_neg (Ne.symm hqi)] at this ⊢
            exact this
        · have := AB.out.set i (.int .i64 ((hm + (i : Int)) % c.shards))
          rw [List.setIfInBounds_toArray, ← List.map_set] at this
          exact this
        · exact BB.out.far (p := ⟨G, i, none⟩) (by show w.heap.size ≠ G; exact BB.out.ne AB.out (by decide)) _
        · exact Keeps.setCell (p := ⟨G, i, none⟩) KP.out (.inr hGw) _
      case measure => simp [intOf]; omega
    · obtain rfl : i = sp := by omega
      trace "EXIT"
      have hsl := sub_arr G i (by omega)
      go_wp2_with fail
      go_ret
      have hL : (setOf c hm i).length = i := setOf_len c hm i
      refine ⟨some ⟨G, 0, none⟩, i, by rw [hL]; rfl, by omega, by simp only [maxLen]; omega, ⟨by simp [hL], fun _ => ⟨G, 0, rfl, hGl, fun q u hq => ?_⟩⟩, KP.out⟩
      have hqi : q < i := by
        have := (List.getElem?_eq_some_iff.1 hq).1
        simpa [hL] using this
      have h1 := HQ.out q hqi
      have h2 := HV.out
      rw [Nat.zero_add, AB.out.cell q]
      rw [← hq]
      have h3 := setOf_get c hm i q hqi
      simp only [List.getD] at h1 h3
      have e1 : vs[q]? = some ((hm + (q : Int)) % c.shards) := by
        rw [List.getElem?_eq_getElem (by omega)] at h1 ⊢
        simpa using h1
      have e2 : (setOf c hm i)[q]? = some ((hm + (q : Int)) % c.shards) := by
        rw [List.getElem?_eq_getElem (by omega)] at h3 ⊢
        simpa using h3
      simp [e1, e2]
end Go.Proofs.Ytgjlibecgkhocaa
