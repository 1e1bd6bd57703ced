/-
  Routing: the reference's shards of a key and of an event; negative numbers.
-/
import Derived.Test.YtgjlibecgkhocaaRv
set_option linter.unusedVariables false
set_option linter.unusedSimpArgs false
namespace Go.Proofs.Ytgjlibecgkhocaa
open Go.RowKit Cfp

theorem elemI2 : ElemOf Try.prog 22 3 1 8 := ElemOf.mk' (z := .int .i64 0) Try.underlying22 (by kernel_rfl) rfl (by omega)
theorem setOf_succ (c : Cfg) (hm : Int) (k : Nat) : setOf c hm (k + 1) = setOf c hm k ++ [(hm + (k : Int)) % c.shards] := by
  unfold setOf; rw [List.range_succ, List.map_append]; rfl

set_option maxRecDepth 100000 in
set_option maxHeartbeats 1000000 in
theorem after_ok (c : Cfg) (h : Rtd c) (C T : Option Addr) (n k j : Nat) (w : World) (hm : Int) (hb : 0 ≤ hm ∧ hm < c.shards) :
    Calls Try.prog 45 #[Value.agg #[.int .i64 c.length, .int .i64 c.lateness, .int .i64 c.windows, .int .i64 c.shards, .int .i64 c.spread, .int .i64 c.queue, .int .i64 c.mode, .int .i64 c.slots, .int .i64 c.exact_, .int .u64 c.promote, .int .i64 c.depth, .int .i64 c.width, .int .i64 c.top, .int .i64 c.key, .slice C n k, .slice T 16 j, .int .u64 c.seed], .int .i64 hm] w (Lists w (setOf c hm c.spread.toNat)) := by
  have h1 := h.shards
  have h2 := h.spread
  have HB := hide (setOf_bd c h hm)
  obtain ⟨sp, hsp⟩ : ∃ sp : Nat, c.spread = (sp : Int) := ⟨c.spread.toNat, by omega⟩
  have HSP := hide hsp
  have hst : c.spread.toNat = sp := by omega
  rw [hst]
  rw [hsp] at h2
  have bX := hide (Blk.new w 28 #[.int .i64 c.length, .int .i64 c.lateness, .int .i64 c.windows, .int .i64 c.shards, .int .i64 c.spread, .int .i64 c.queue, .int .i64 c.mode, .int .i64 c.slots, .int .i64 c.exact_, .int .u64 c.promote, .int .i64 c.depth, .int .i64 c.width, .int .i64 c.top, .int .i64 c.key, .slice C n k, .slice T 16 j, .int .u64 c.seed])
  have kX := hide ((Keeps.refl (fun _ => False) w).alloc (.cells #[.int .i64 c.length, .int .i64 c.lateness, .int .i64 c.windows, .int .i64 c.shards, .int .i64 c.spread, .int .i64 c.queue, .int .i64 c.mode, .int .i64 c.slots, .int .i64 c.exact_, .int .u64 c.promote, .int .i64 c.depth, .int .i64 c.width, .int .i64 c.top, .int .i64 c.key, .slice C n k, .slice T 16 j, .int .u64 c.seed] 28))
  have hsz : w.heap.size < (w.alloc (.cells #[.int .i64 c.length, .int .i64 c.lateness, .int .i64 c.windows, .int .i64 c.shards, .int .i64 c.spread, .int .i64 c.queue, .int .i64 c.mode, .int .i64 c.slots, .int .i64 c.exact_, .int .u64 c.promote, .int .i64 c.depth, .int .i64 c.width, .int .i64 c.top, .int .i64 c.key, .slice C n k, .slice T 16 j, .int .u64 c.seed] 28)).heap.size := bX.out.lt
  clear hst hsp
  go_enter Try.func45, Try.ntmps45
  go_wp2_with fail
  generalize w.alloc _ = w1 at *
  go_loopw [5, 6] (fun ov iv wr => ∃ (i : Nat) (A : Option Addr) (cc : Nat), i ≤ sp ∧ iv = .int .i64 i ∧ ov = .slice A i cc ∧ Own wr w1.heap.size 3 1 A i cc ((setOf c hm i).map (.int .i64)) ∧ Keeps (fun _ => False) w1 wr) (fun _ iv _ => sp - (intOf iv).toNat)
  case atStart => exact ⟨0, none, 0, by omega, rfl, rfl, Own.nil _ _ _ _, Keeps.refl _ _⟩
  case round =>
    obtain ⟨i, A, cc, hi, rfl, rfl, ow, kp⟩ := hrel
    have bb := bX.out.kept kp (fun h => h)
    have q3 : wr.cell? ⟨w.heap.size, 3, none⟩ = some (.int .i64 c.shards) := bb.cell 3
    have q4 : wr.cell? ⟨w.heap.size, 4, none⟩ = some (.int .i64 c.spread) := bb.cell 4
    rw [HSP.out] at q4
    have OW := hide ow
    have KP := hide kp
    have hs1 := kp.size
    clear bb ow kp
    by_cases hlt : i < sp
    · have hltI : (i : Int) < (sp : Int) := by omega
      have hw1 : IntKind.i64.wrap (hm + (i : Int)) = hm + (i : Int) := IntWalk.i64_in _ (by omega)
      have hrm : (hm + (i : Int)).tmod c.shards = (hm + (i : Int)) % c.shards := Int.tmod_eq_emod_of_nonneg (by omega)
      have hbi := HB.out i
      have hw2 : IntKind.i64.wrap ((hm + (i : Int)) % c.shards) = (hm + (i : Int)) % c.shards := IntWalk.i64_in _ (by omega)
      go_wp2_with (at_builtin; refine wpList_app _ elemI2 rfl (.tmp 13) (.tmp 20) rfl w1.heap.size _ rfl (OW.out.kept ((Keeps.refl (fun _ => False) wr).alloc _) (fun _ _ h => h)) _ (m := 1) [.int .i64 ((hm + (i : Int)) % c.shards)] rfl (by exact Blk.rd (xs := [.int .i64 ((hm + (i : Int)) % c.shards)]) (Blk.new_at _ _ _ _ (by simp)) rfl) (by simp [Value.oneCell']) (by simp only [maxLen]; omega) (by omega) (by simp; omega) ?_; intro A5 c5 w5 o5 k5 hA5; have O5 := hide o5; have K5 := hide (((KP.out.alloc (.cells #[.int .i64 ((hm + (i : Int)) % c.shards)] 3))).step k5 (fun b hb h => by have := OW.out.inB h; omega)); clear o5 k5 hA5)
      go_roundw
      case rel => exact ⟨i + 1, A5, c5, by omega, by go_num, rfl, by have := O5.out; rw [setOf_succ, List.map_append]; exact this, K5.out⟩
      case measure => simp [intOf]; omega
    · obtain rfl : i = sp := by omega
      go_wp2_with fail
      go_ret
      have hL : (setOf c hm i).length = i := setOf_len c hm i
      have hle := OW.out.le
      have hcm : cc ≤ maxLen := by
        rcases OW.out.form with ⟨_, _, h⟩ | ⟨_, _, _, _, _, h⟩
        · rw [h]; simp [maxLen]
        · exact h
      exact ⟨A, cc, by rw [hL]; rfl, by omega, hcm, by rw [hL]; exact OW.out.rd (by omega), kX.out.trans KP.out⟩

/-- the program's shard of an event before which a negative number of events came: the home -/
theorem route_neg (c : Cfg) (h : Rtd c) (C T : Option Addr) (n k j B : Nat) (w : World) (zs : List Int) (hz : ∀ z ∈ zs, 0 ≤ z ∧ z < 18446744073709551616) (hr : Rd w B T 1 16 (zs.map (.int .u64))) (s : ByteArray) (hs : s.size ≤ 140737488351232)
    (x : Int) (x0 : x < 0) (x1 : -9223372036854775808 ≤ x) :
    Calls Try.prog 21 #[Value.agg #[.int .i64 c.length, .int .i64 c.lateness, .int .i64 c.windows, .int .i64 c.shards, .int .i64 c.spread, .int .i64 c.queue, .int .i64 c.mode, .int .i64 c.slots, .int .i64 c.exact_, .int .u64 c.promote, .int .i64 c.depth, .int .i64 c.width, .int .i64 c.top, .int .i64 c.key, .slice C n k, .slice T 16 j, .int .u64 c.seed], .string s, .int .i64 x] w fun e w' => e = .returned (.int .i64 (homeOf c zs s)) ∧ Keeps (fun _ => False) w w' := by
  have h2 := h.spread
  have h1 := h.shards
  have hb := home_bd c h zs s
  have HH := hide (fun W (hr : Rd W B T 1 16 (zs.map (.int .u64))) => set_ok c h C T n k j B W zs hz hr s hs)
  obtain ⟨hm, hhm⟩ : ∃ hm, hm = homeOf c zs s := ⟨_, rfl⟩
  rw [← hhm] at HH hb ⊢
  have HR := hide hr
  obtain ⟨sp, hst⟩ : ∃ sp, sp = c.spread.toNat := ⟨_, rfl⟩
  rw [← hst] at HH
  have hsp1 : 1 ≤ sp := by omega
  have HSL := hide (setOf_len c hm sp)
  have h0 : (setOf c hm sp).getD 0 0 = hm := by
    rw [setOf_get c hm sp 0 (by omega), show hm + ((0 : Nat) : Int) = hm from by omega]
    exact Int.emod_eq_of_lt hb.1 hb.2
  have H0 := hide h0
  have bX := hide (Blk.new w 28 #[.int .i64 c.length, .int .i64 c.lateness, .int .i64 c.windows, .int .i64 c.shards, .int .i64 c.spread, .int .i64 c.queue, .int .i64 c.mode, .int .i64 c.slots, .int .i64 c.exact_, .int .u64 c.promote, .int .i64 c.depth, .int .i64 c.width, .int .i64 c.top, .int .i64 c.key, .slice C n k, .slice T 16 j, .int .u64 c.seed])
  have kX := hide ((Keeps.refl (fun _ => False) w).alloc (.cells #[.int .i64 c.length, .int .i64 c.lateness, .int .i64 c.windows, .int .i64 c.shards, .int .i64 c.spread, .int .i64 c.queue, .int .i64 c.mode, .int .i64 c.slots, .int .i64 c.exact_, .int .u64 c.promote, .int .i64 c.depth, .int .i64 c.width, .int .i64 c.top, .int .i64 c.key, .slice C n k, .slice T 16 j, .int .u64 c.seed] 28))
  clear hr hhm hst h0
  go_enter Try.func21, Try.ntmps21
  go_wp2_with (refine cfg_ld _ rfl bX.out rfl (by rfl) ?_; simp only [Act.put, List.setIfInBounds_toArray, List.set_cons_zero, List.set_cons_succ])
  refine (HH.out _ (HR.out.kept kX.out (fun _ _ h => h))).mono ?_
  rintro e w3 ⟨A, cc, rfl, lc, cm, rl, k3⟩
  have K3 := hide (kX.out.trans k3)
  obtain ⟨ln, hln⟩ : ∃ ln, ln = (setOf c hm sp).length := ⟨_, rfl⟩
  rw [← hln] at lc rl ⊢
  obtain rfl : ln = sp := by rw [hln, HSL.out]
  obtain ⟨b, off, rfl, hb', hc⟩ := rl.2 (by omega)
  have hcell := hc 0 (.int .i64 hm) (by
    have hyl : 0 < (setOf c hm ln).length := by rw [HSL.out]; omega
    have h3 := H0.out
    simp only [List.getD, List.getElem?_eq_getElem hyl, Option.getD_some] at h3
    simp [List.getElem?_eq_getElem hyl, h3])
  rw [Nat.add_zero] at hcell
  have hl0 : (0 : Int) < (ln : Int) := by omega
  have hl1 : 0 < ln := by omega
  have e0 : ((ln : Int) == 0) = false := by simp; omega
  clear hln rl hc k3 HH HR
  go_wp2_with fail
  trace "NEG"
  go_ret
  exact ⟨rfl, K3.out⟩
end Go.Proofs.Ytgjlibecgkhocaa
