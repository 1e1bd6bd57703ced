/-
  Routing of valid configurations: the shard of an event; the comparison of two lists of numbers.
-/
import Derived.Test.YtgjlibecgkhocaaRs
set_option linter.unusedVariables false
set_option linter.unusedSimpArgs false
namespace Go.Proofs.Ytgjlibecgkhocaa
open Go.RowKit Cfp

theorem sameInts_any (L : List Int) (A A2 : Option Addr) (m c c2 B B2 : Nat) (w : World) (hr : Rd w B A 1 m (L.map (.int .i64))) (hr2 : Rd w B2 A2 1 m (L.map (.int .i64))) (hm : m ≤ 140737488351232) :
    Calls Try.prog 18 #[.slice A m c, .slice A2 m c2] w fun e w' => e = .returned (.bool true) ∧ ∃ nq, w' = w.drewN nq := by
  have hl : L.length = m := by simpa using hr.1
  go_enter Try.func18, Try.ntmps18
  go_wp2_with fail
  go_loopw [5, 13] (fun _ i wr => ∃ k : Nat, k ≤ m ∧ i = .int .i64 k ∧ ∃ nq, wr = w.drewN nq) (fun _ i _ => m - (intOf i).toNat)
  case atStart => exact ⟨0, by omega, rfl, 0, rfl⟩
  case round =>
    obtain ⟨k, hk, rfl, nq, rfl⟩ := hrel
    by_cases hlt : k < m
    · obtain ⟨b, off, rfl, _, hc⟩ := hr.2 (by omega)
      obtain ⟨b2, off2, rfl, _, hc2⟩ := hr2.2 (by omega)
      have c1 := hc k (.int .i64 (L.getD k 0)) (by simp [List.getD, show k < L.length by omega])
      have c2' := hc2 k (.int .i64 (L.getD k 0)) (by simp [List.getD, show k < L.length by omega])
      obtain ⟨p, hp⟩ : ∃ p, p = L.getD k 0 := ⟨_, rfl⟩
      rw [← hp] at c1 c2'
      have HL := hide hl
      have hltI : (k : Int) < (m : Int) := by omega
      clear hp hr hr2 hc hc2 hl
      go_wp2_with fail
      go_quiet (fail)
      go_wp2_with fail
      go_roundw
      case rel => exact ⟨k + 1, by omega, by go_num, _, rfl⟩
      case measure => simp [intOf]; omega
    · go_wp2_with fail
      go_ret
      exact ⟨rfl, _, rfl⟩

def routeOf (c : Cfg) (hm : Int) (n : Int) : Int := (hm + n % c.spread) % c.shards
set_option maxRecDepth 100000 in
set_option maxHeartbeats 2000000 in
theorem route_ok (c : Cfg) (h : Rtd c) (C T : Option Addr) (n k j B : Nat) (w : World) (zs : List Int) (hz : ∀ z ∈ zs, 0 ≤ z ∧ z < 18446744073709551616) (hr : Rd w B T 1 16 (zs.map (.int .u64))) (s : ByteArray) (hs : s.size ≤ 140737488351232)
    (x : Int) (x0 : 0 ≤ x) (x1 : x < 9223372036854775808) :
    Calls Try.prog 21 #[Value.agg #[.int .i64 c.length, .int .i64 c.lateness, .int .i64 c.windows, .int .i64 c.shards, .int .i64 c.spread, .int .i64 c.queue, .int .i64 c.mode, .int .i64 c.slots, .int .i64 c.exact_, .int .u64 c.promote, .int .i64 c.depth, .int .i64 c.width, .int .i64 c.top, .int .i64 c.key, .slice C n k, .slice T 16 j, .int .u64 c.seed], .string s, .int .i64 x] w fun e w' => e = .returned (.int .i64 (routeOf c (homeOf c zs s) x)) ∧ Keeps (fun _ => False) w w' := by
  have h2 := h.spread
  have h1 := h.shards
  have HH := hide (fun W (hr : Rd W B T 1 16 (zs.map (.int .u64))) => set_ok c h C T n k j B W zs hz hr s hs)
  obtain ⟨hm, hhm⟩ : ∃ hm, hm = homeOf c zs s := ⟨_, rfl⟩
  rw [← hhm] at HH ⊢
  have HR := hide hr
  obtain ⟨sp, hst⟩ : ∃ sp, sp = c.spread.toNat := ⟨_, rfl⟩
  rw [← hst] at HH
  have hsp : c.spread = (sp : Int) := by omega
  unfold routeOf
  have HS := hide hsp
  rw [hsp] at h2
  have hsl := setOf_len c hm sp
  have hi0 : 0 ≤ x % (sp : Int) := Int.emod_nonneg _ (by omega)
  have hi1 : x % (sp : Int) < (sp : Int) := Int.emod_lt_of_pos _ (by omega)
  have hsg := setOf_get c hm sp (x % (sp : Int)).toNat (by omega)
  rw [Int.toNat_of_nonneg hi0] at hsg
  have HSG := hide hsg
  have HSL := hide hsl
  have HV : Hid ((hm + x % c.spread) % c.shards = (hm + x % (sp : Int)) % c.shards) := by show _ = _; rw [hsp]
  rw [HV.out]
  clear hr hhm hsp hst hsg hsl
  go_enter Try.func21, Try.ntmps21
  go_wp2_with fail
  have b1 := Blk.new w 28 #[.int .i64 c.length, .int .i64 c.lateness, .int .i64 c.windows, .int .i64 c.shards, .int .i64 c.spread, .int .i64 c.queue, .int .i64 c.mode, .int .i64 c.slots, .int .i64 c.exact_, .int .u64 c.promote, .int .i64 c.depth, .int .i64 c.width, .int .i64 c.top, .int .i64 c.key, .slice C n k, .slice T 16 j, .int .u64 c.seed]
  have k1 := (Keeps.refl (fun _ => False) w).alloc (.cells #[.int .i64 c.length, .int .i64 c.lateness, .int .i64 c.windows, .int .i64 c.shards, .int .i64 c.spread, .int .i64 c.queue, .int .i64 c.mode, .int .i64 c.slots, .int .i64 c.exact_, .int .u64 c.promote, .int .i64 c.depth, .int .i64 c.width, .int .i64 c.top, .int .i64 c.key, .slice C n k, .slice T 16 j, .int .u64 c.seed] 28)
  refine (HH.out _ (HR.out.kept k1 (fun _ _ h => h))).mono ?_
  rintro e w3 ⟨A, cc, rfl, lc, cm, rl, k3⟩
  have K3 := hide (k1.trans k3)
  obtain ⟨ln, hln⟩ : ∃ ln, ln = (setOf c hm sp).length := ⟨_, rfl⟩
  rw [← hln] at lc rl ⊢
  obtain rfl : ln = sp := by rw [hln, HSL.out]
  obtain ⟨b, off, rfl, hb, hc⟩ := rl.2 (by omega)
  obtain ⟨y, hy⟩ : ∃ y : Nat, x % (ln : Int) = (y : Int) := ⟨(x % (ln : Int)).toNat, by omega⟩
  have hcell := hc y (.int .i64 ((hm + x % (ln : Int)) % c.shards)) (by
    have h3 := HSG.out
    rw [hy, Int.toNat_natCast] at h3
    have hyl : y < (setOf c hm ln).length := by rw [HSL.out]; omega
    rw [hy, ← h3]
    simp [List.getD, hyl])
  obtain ⟨v, hv⟩ : ∃ v, v = (hm + x % (ln : Int)) % c.shards := ⟨_, rfl⟩
  rw [← hv] at hcell
  have HVV := hide hv
  have hrm : x.tmod (ln : Int) = (y : Int) := by rw [Int.tmod_eq_emod_of_nonneg x0, hy]
  have e0 : ((ln : Int) == 0) = false := by simp; omega
  have hw : IntKind.i64.wrap (y : Int) = (y : Int) := IntWalk.i64_in _ (by omega)
  have hy1 : (y : Int) < (ln : Int) := by omega
  have hy0 : (0 : Int) ≤ (y : Int) := by omega
  clear k1 k3 b1 hln rl hc hy hv HSG HH HR HV hi0 hi1
  go_wp2_with fail
  trace "END"
  go_ret
  exact ⟨ret_int HVV.out, K3.out⟩
end Go.Proofs.Ytgjlibecgkhocaa
