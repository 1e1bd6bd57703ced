/-
  sizing.Check of a valid configuration gives OK.
-/
import Derived.Test.YtgjlibecgkhocaaCf3
import Derived.Test.YtgjlibecgkhocaaRt
import Derived.Test.YtgjlibecgkhocaaLd
set_option linter.unusedVariables false
set_option linter.unusedSimpArgs false
namespace Go.Proofs.Ytgjlibecgkhocaa
open Go.RowKit Cfp

theorem sclock_ok (c : Cfg) (h : Fine c) (C T : Option Addr) (n k m j : Nat) (w : World) :
    Calls Try.prog 47 #[Value.agg #[.int .i64 c.length, .int .i64 c.lateness, .int .i64 c.windows, .int .i64 c.shards, .int .i64 c.spread, .int .i64 c.queue, .int .i64 c.mode, .int .i64 c.slots, .int .i64 c.exact_, .int .u64 c.promote, .int .i64 c.depth, .int .i64 c.width, .int .i64 c.top, .int .i64 c.key, .slice C n k, .slice T m j, .int .u64 c.seed]] w fun e w' => e = .returned (.int .i64 0) ∧ w' = w.alloc (.cells #[.int .i64 c.length, .int .i64 c.lateness, .int .i64 c.windows, .int .i64 c.shards, .int .i64 c.spread, .int .i64 c.queue, .int .i64 c.mode, .int .i64 c.slots, .int .i64 c.exact_, .int .u64 c.promote, .int .i64 c.depth, .int .i64 c.width, .int .i64 c.top, .int .i64 c.key, .slice C n k, .slice T m j, .int .u64 c.seed] 28) := by
  have h1 := h.length
  have h2 := h.lateness
  have h3 := h.windows
  go_enter Try.func47, Try.ntmps47
  go_wp2_with fail
  go_ret
  exact ⟨rfl, rfl⟩
theorem between_in (x a b : Int) (h0 : a ≤ x) (h1 : x ≤ b) (w : World) :
    Calls Try.prog 58 #[.int .i64 x, .int .i64 a, .int .i64 b] w fun e w' => e = .returned (.bool true) ∧ w = w' := by
  go_enter Try.func58, Try.ntmps58
  go_wp2_with fail
  go_ret
  exact ⟨by simp, rfl⟩

set_option maxRecDepth 100000 in
set_option maxHeartbeats 1000000 in
theorem numbers_ok (c : Cfg) (h : Fine c) (C T : Option Addr) (n k m j : Nat) (w : World) :
    Calls Try.prog 48 #[Value.agg #[.int .i64 c.length, .int .i64 c.lateness, .int .i64 c.windows, .int .i64 c.shards, .int .i64 c.spread, .int .i64 c.queue, .int .i64 c.mode, .int .i64 c.slots, .int .i64 c.exact_, .int .u64 c.promote, .int .i64 c.depth, .int .i64 c.width, .int .i64 c.top, .int .i64 c.key, .slice C n k, .slice T m j, .int .u64 c.seed]] w fun e w' => e = .returned (.bool true) ∧ w' = w.alloc (.cells #[.int .i64 c.length, .int .i64 c.lateness, .int .i64 c.windows, .int .i64 c.shards, .int .i64 c.spread, .int .i64 c.queue, .int .i64 c.mode, .int .i64 c.slots, .int .i64 c.exact_, .int .u64 c.promote, .int .i64 c.depth, .int .i64 c.width, .int .i64 c.top, .int .i64 c.key, .slice C n k, .slice T m j, .int .u64 c.seed] 28) := by
  have h1 := h.queue
  have h2 := h.mode
  have h3 := h.slots
  have h4 := h.exact_
  have h5 := h.depth
  have h6 := h.width
  have h7 := h.top
  have h8 := h.key
  have hb1 := hide (fun W => between_in c.queue 1 64 h1.1 h1.2 W)
  have hb2 := hide (fun W => between_in c.slots 1 64 h3.1 h3.2 W)
  have hb3 := hide (fun W => between_in c.exact_ 0 32 h4.1 h4.2 W)
  have hb4 := hide (fun W => between_in c.depth 1 4 h5.1 h5.2 W)
  have hb5 := hide (fun W => between_in c.width 1 256 h6.1 h6.2 W)
  have hb6 := hide (fun W => between_in c.top 1 64 h7.1 h7.2 W)
  have hb7 := hide (fun W => between_in c.key 1 255 h8.1 h8.2 W)
  clear h1 h3 h4 h5 h6 h7 h8
  by_cases hm : c.mode = 1
  all_goals
    first
      | (have e1 : (c.mode == 1) = true := by simp [hm])
      | (have e1 : (c.mode == 1) = false := by simp [hm]
         have e2 : (c.mode == 2) = true := by simp; omega)
    clear hm h2
    go_enter Try.func48, Try.ntmps48
    go_wp2_with fail
    refine (hb1.out _).mono ?_
    rintro e w1 ⟨rfl, rfl⟩
    go_wp2_with fail
    refine (hb2.out _).mono ?_
    rintro e w1 ⟨rfl, rfl⟩
    go_wp2_with fail
    refine (hb3.out _).mono ?_
    rintro e w1 ⟨rfl, rfl⟩
    go_wp2_with fail
    refine (hb4.out _).mono ?_
    rintro e w1 ⟨rfl, rfl⟩
    go_wp2_with fail
    refine (hb5.out _).mono ?_
    rintro e w1 ⟨rfl, rfl⟩
    go_wp2_with fail
    refine (hb6.out _).mono ?_
    rintro e w1 ⟨rfl, rfl⟩
    go_wp2_with fail
    refine (hb7.out _).mono ?_
    rintro e w1 ⟨rfl, rfl⟩
    go_wp2_with fail
    go_ret
    exact ⟨rfl, rfl⟩

theorem acheck_ok (l : List (Int × Int)) (h : classesE l = 0) (C : Option Addr) (n k B : Nat) (w : World) (hr : Rd w B C 2 n (clv l)) (hB : B ≤ w.heap.size) :
    Calls Try.prog 49 #[.slice C n k] w fun e w' => e = .returned (.int .i64 0) ∧ Keeps (fun _ => False) w w' := by
  obtain ⟨⟨n0, n1⟩, hb⟩ := classes_bd l h
  have hlen : l.length = n := by have := hr.1; rw [clv_len] at this; omega
  rw [hlen] at n0 n1
  have HL := hide hlen
  have HR := hide hr
  have HC := hide hb
  have HS := hide (asc_step l h)
  have e0 : ((n : Int) == 0) = false := by simp; omega
  clear hlen hr hb h
  go_enter Try.func49, Try.ntmps49
  go_wp2_with fail
  go_loopw [3, 4, 15] (fun _ _ i wr => ∃ j : Nat, j ≤ n ∧ i = .int .i64 j ∧ Keeps (fun _ => False) w wr) (fun _ _ i _ => n - (intOf i).toNat)
  case atStart => exact ⟨0, by omega, rfl, Keeps.refl _ _⟩
  case round =>
    obtain ⟨j, hj, rfl, kp⟩ := hrel
    by_cases hlt : j < n
    · obtain ⟨c, hc⟩ : ∃ c, l[j]? = some c := ⟨l[j]'(by have := HL.out; omega), by simp⟩
      have hbc := HC.out c (List.mem_of_getElem? hc)
      obtain ⟨b, off, rfl, hbB, hcell⟩ := (HR.out.kept kp (fun _ _ h => h)).2 (by omega)
      obtain ⟨g1, g2⟩ := clv_at l j c hc
      have f1 := hcell _ _ g1
      have f2 := hcell _ _ g2
      rw [← Nat.add_assoc] at f2
      have hltI : (j : Int) < (n : Int) := by omega
      have hsz := kp.size
      have KP := hide kp
      rcases j with _ | i
      · simp only [Nat.zero_mul, Nat.add_zero] at f1 f2
        clear hcell g1 g2 hc kp
        go_wp2_with fail
        go_quiet (fail)
        go_wp2_with fail
        go_roundw
        case rel => exact ⟨1, by omega, by go_num, (KP.out.alloc _).drewN _⟩
        case measure => simp [intOf]; omega
      · obtain ⟨d, hd⟩ : ∃ d, l[i]? = some d := ⟨l[i]'(by have := HL.out; omega), by simp⟩
        have hcd := HS.out i d c hd hc
        have f3 := hcell _ _ (clv_at l i d hd).1
        have f4 : ∀ o, (wr.alloc o).cell? ⟨b, off + i * 2, none⟩ = some (.int .i64 d.1) := fun o => ((Keeps.refl (fun _ => False) wr).alloc o).cell_some f3 (fun h => h)
        have e1 : IntKind.i64.wrap (((i + 1 : Nat) : Int) - 1) = (i : Int) := by rw [IntKind.wrap_i64]; omega
        have e2 : ((((i + 1 : Nat) : Int) > 0) : Prop) := by omega
        have hin : (i : Int) < (n : Int) := by omega
        have E1 := hide e1
        clear hcell g1 g2 hc hd kp e1
        go_wp2_with fail
        have e1 := E1.out
        go_quiet (fail)
        go_wp2_with fail
        go_roundw
        case rel => exact ⟨i + 1 + 1, by omega, by go_num, (KP.out.alloc _).drewN _⟩
        case measure => simp [intOf]; omega
    · have KP := hide kp
      clear kp
      go_wp2_with fail
      go_ret
      exact ⟨rfl, KP.out⟩
end Go.Proofs.Ytgjlibecgkhocaa
