/-
  Routing of valid configurations: contracts of the program's functions.
-/
import Derived.Test.YtgjlibecgkhocaaCf3
import Derived.Test.YtgjlibecgkhocaaHash
import Derived.Test.YtgjlibecgkhocaaMem4
import Derived.Deep.CutRange
import Derived.Deep.RegionHeld3
set_option linter.unusedVariables false
set_option linter.unusedSimpArgs false
namespace Go.Proofs.Ytgjlibecgkhocaa
open Go.RowKit Cfp

/-- what routing needs of a configuration -/
structure Rtd (c : Cfg) : Prop where
  shards : 1 ≤ c.shards ∧ c.shards ≤ 8
  spread : 1 ≤ c.spread ∧ c.spread ≤ c.shards
  seed : 0 ≤ c.seed ∧ c.seed < 18446744073709551616

theorem rtcheck_ok (c : Cfg) (h : Rtd c) (C T : Option Addr) (n k j : Nat) (w : World) :
    Calls Try.prog 14 #[Value.agg #[.int .i64 c.length, .int .i64 c.lateness, .int .i64 c.windows, .int .i64 c.shards, .int .i64 c.spread, .int .i64 c.queue, .int .i64 c.mode, .int .i64 c.slots, .int .i64 c.exact_, .int .u64 c.promote, .int .i64 c.depth, .int .i64 c.width, .int .i64 c.top, .int .i64 c.key, .slice C n k, .slice T 16 j, .int .u64 c.seed]] w fun e w' => e = .returned (.int .i64 0) ∧ w' = w.alloc (.cells #[.int .i64 c.length, .int .i64 c.lateness, .int .i64 c.windows, .int .i64 c.shards, .int .i64 c.spread, .int .i64 c.queue, .int .i64 c.mode, .int .i64 c.slots, .int .i64 c.exact_, .int .u64 c.promote, .int .i64 c.depth, .int .i64 c.width, .int .i64 c.top, .int .i64 c.key, .slice C n k, .slice T 16 j, .int .u64 c.seed] 28) := by
  have h1 := h.shards
  have h2 := h.spread
  go_enter Try.func14, Try.ntmps14
  go_wp2_with (go_at_call 39; refine (Hash.check_16 _ _ _).mono ?_; rintro e w1 ⟨rfl, rfl⟩)
  go_ret
  exact ⟨rfl, rfl⟩

/-- the first shard of a key -/
def homeOf (c : Cfg) (zs : List Int) (s : ByteArray) : Int := Hash.slot (Hash.key zs c.seed s.data.toList) c.shards
theorem home_bd (c : Cfg) (h : Rtd c) (zs : List Int) (s : ByteArray) : 0 ≤ homeOf c zs s ∧ homeOf c zs s < c.shards := by
  have h1 := h.shards
  unfold homeOf Hash.slot
  rw [if_neg (by omega)]
  exact ⟨Int.emod_nonneg _ (by omega), Int.emod_lt_of_pos _ (by omega)⟩
theorem key_bd (zs : List Int) (seed : Int) (l : List UInt8) : 0 ≤ Hash.key zs seed l ∧ Hash.key zs seed l < 18446744073709551616 := by
  unfold Hash.key
  split
  · exact Hash.fin_bd _
  · omega

set_option maxRecDepth 100000 in
set_option maxHeartbeats 1000000 in
theorem home_ok (c : Cfg) (h : Rtd c) (C T : Option Addr) (n k j B : Nat) (w : World) (zs : List Int) (hz : ∀ z ∈ zs, 0 ≤ z ∧ z < 18446744073709551616) (hr : Rd w B T 1 16 (zs.map (.int .u64))) (s : ByteArray) (hs : s.size ≤ 140737488351232) :
    Calls Try.prog 16 #[Value.agg #[.int .i64 c.length, .int .i64 c.lateness, .int .i64 c.windows, .int .i64 c.shards, .int .i64 c.spread, .int .i64 c.queue, .int .i64 c.mode, .int .i64 c.slots, .int .i64 c.exact_, .int .u64 c.promote, .int .i64 c.depth, .int .i64 c.width, .int .i64 c.top, .int .i64 c.key, .slice C n k, .slice T 16 j, .int .u64 c.seed], .string s] w fun e w' => e = .returned (.int .i64 (homeOf c zs s)) ∧ Keeps (fun _ => False) w w' := by
  have h1 := h.shards
  have kb := key_bd zs c.seed s.data.toList
  have KK := hide (fun W (hr : Rd W B T 1 16 (zs.map (.int .u64))) => Hash.key_any zs hz T 16 j B W hr c.seed h.seed.1 h.seed.2 s hs)
  have KS := hide (fun W => Hash.slot_any (Hash.key zs c.seed s.data.toList) c.shards kb.1 kb.2 (by omega) (by omega) W)
  have CH := hide (fun W => rtcheck_ok c h C T n k j W)
  unfold homeOf
  obtain ⟨hv, hhv⟩ : ∃ hv, hv = Hash.key zs c.seed s.data.toList := ⟨_, rfl⟩
  rw [← hhv] at KK KS kb ⊢
  obtain ⟨sv, hsv⟩ : ∃ sv, sv = Hash.slot hv c.shards := ⟨_, rfl⟩
  rw [← hsv] at KS ⊢
  have HR := hide hr
  clear hr hhv hsv
  go_enter Try.func16, Try.ntmps16
  go_wp2_with fail
  refine (CH.out _).mono ?_
  rintro e w1 ⟨rfl, hw1⟩
  have b1 := Blk.new w 28 #[.int .i64 c.length, .int .i64 c.lateness, .int .i64 c.windows, .int .i64 c.shards, .int .i64 c.spread, .int .i64 c.queue, .int .i64 c.mode, .int .i64 c.slots, .int .i64 c.exact_, .int .u64 c.promote, .int .i64 c.depth, .int .i64 c.width, .int .i64 c.top, .int .i64 c.key, .slice C n k, .slice T 16 j, .int .u64 c.seed]
  have k1 : Keeps (fun _ => False) (w.alloc (.cells #[.int .i64 c.length, .int .i64 c.lateness, .int .i64 c.windows, .int .i64 c.shards, .int .i64 c.spread, .int .i64 c.queue, .int .i64 c.mode, .int .i64 c.slots, .int .i64 c.exact_, .int .u64 c.promote, .int .i64 c.depth, .int .i64 c.width, .int .i64 c.top, .int .i64 c.key, .slice C n k, .slice T 16 j, .int .u64 c.seed] 28)) w1 := by rw [hw1]; exact (Keeps.refl _ _).alloc _
  have K1 := hide (((Keeps.refl (fun _ => False) w).alloc (.cells #[.int .i64 c.length, .int .i64 c.lateness, .int .i64 c.windows, .int .i64 c.shards, .int .i64 c.spread, .int .i64 c.queue, .int .i64 c.mode, .int .i64 c.slots, .int .i64 c.exact_, .int .u64 c.promote, .int .i64 c.depth, .int .i64 c.width, .int .i64 c.top, .int .i64 c.key, .slice C n k, .slice T 16 j, .int .u64 c.seed] 28)).trans k1)
  have HR1 := hide (HR.out.kept K1.out (fun _ _ h => h))
  have HK1 := hide (fun q => KK.out (w1.drewN q) (HR1.out.drewN q))
  obtain ⟨c0, c1, c2, c3, c4, c5, c6, c7, c8, c9, c10, c11, c12, c13, c14, c15, c16⟩ := cfg_cells (b1.kept k1 (fun h => h))
  clear b1 k1 hw1 HR KK c0 c1 c2 c4 c5 c6 c7 c8 c9 c10 c11 c12 c13 c14
  go_wp2_with fail
  go_quiet ((first
    | (go_at_call 42; first | exact quiet_more (HK1.out _) | exact quiet_add (HK1.out _))
    | (go_at_call 41; first | exact quiet_left (KS.out _) | exact quiet_add_left (KS.out _))))
  go_wp2_with fail
  go_ret
  exact ⟨rfl, K1.out.drewN _⟩
/-- the shards of a key -/
def setOf (c : Cfg) (hm : Int) (k : Nat) : List Int := (List.range k).map fun (i : Nat) => (hm + (i : Int)) % c.shards
theorem setOf_len (c : Cfg) (hm : Int) (k : Nat) : (setOf c hm k).length = k := by simp [setOf]
theorem setOf_get (c : Cfg) (hm : Int) (k i : Nat) (hi : i < k) : (setOf c hm k).getD i 0 = (hm + (i : Int)) % c.shards := by simp [setOf, List.getD, hi]
theorem setOf_bd (c : Cfg) (h : Rtd c) (hm : Int) (i : Nat) : 0 ≤ (hm + (i : Int)) % c.shards ∧ (hm + (i : Int)) % c.shards < c.shards :=
  have h1 := h.shards
  ⟨Int.emod_nonneg _ (by omega), Int.emod_lt_of_pos _ (by omega)⟩

/-- a list of numbers, in a block of its own -/
def Lists (w : World) (L : List Int) (e : Ending) (w' : World) : Prop :=
  ∃ (A : Option Addr) (cc : Nat), e = .returned (.slice A L.length cc) ∧ L.length ≤ cc ∧ cc ≤ maxLen ∧ Rd w' w'.heap.size A 1 L.length (L.map (.int .i64)) ∧ Keeps (fun _ => False) w w'

end Go.Proofs.Ytgjlibecgkhocaa
