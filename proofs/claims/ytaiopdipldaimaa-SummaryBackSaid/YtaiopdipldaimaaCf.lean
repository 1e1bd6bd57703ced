/-
  Configurations: what the functions that check one give for one that is valid.
-/
import Derived.Test.YtaiopdipldaimaaMem4
import Derived.Test.YtaiopdipldaimaaDeck
import Derived.Test.YtaiopdipldaimaaHash
import Derived.Test.YtaiopdipldaimaaCfp
set_option linter.unusedVariables false
set_option linter.unusedSimpArgs false
namespace Go.Proofs.Ytaiopdipldaimaa
open Go.RowKit Cfp

structure Fine (c : Cfg) : Prop where
  length : 1 ≤ c.length ∧ c.length ≤ 1048576
  lateness : 0 ≤ c.lateness ∧ c.lateness ≤ 1048576
  windows : 1 ≤ c.windows ∧ c.windows ≤ 8
  shards : 1 ≤ c.shards ∧ c.shards ≤ 8
  spread : 1 ≤ c.spread ∧ c.spread ≤ c.shards
  queue : 1 ≤ c.queue ∧ c.queue ≤ 64
  mode : 1 ≤ c.mode ∧ c.mode ≤ 2
  slots : 1 ≤ c.slots ∧ c.slots ≤ 64
  exact_ : 0 ≤ c.exact_ ∧ c.exact_ ≤ 32
  promote : 0 ≤ c.promote ∧ c.promote < 18446744073709551616
  depth : 1 ≤ c.depth ∧ c.depth ≤ 4
  width : 1 ≤ c.width ∧ c.width ≤ 256
  top : 1 ≤ c.top ∧ c.top ≤ 64
  key : 1 ≤ c.key ∧ c.key ≤ 255
  seed : 0 ≤ c.seed ∧ c.seed < 18446744073709551616

theorem clock_ok (c : Cfg) (h : Fine c) (C T : Option Addr) (n k m j : Nat) (w : World) :
    Calls Try.prog 93 #[Value.agg #[.int .i64 c.length, .int .i64 c.lateness, .int .i64 c.windows, .int .i64 c.shards, .int .i64 c.spread, .int .i64 c.queue, .int .i64 c.mode, .int .i64 c.slots, .int .i64 c.exact_, .int .u64 c.promote, .int .i64 c.depth, .int .i64 c.width, .int .i64 c.top, .int .i64 c.key, .slice C n k, .slice T m j, .int .u64 c.seed]] w fun e w' => e = .returned (.int .i64 0) ∧ w' = w.alloc (.cells #[.int .i64 c.length, .int .i64 c.lateness, .int .i64 c.windows, .int .i64 c.shards, .int .i64 c.spread, .int .i64 c.queue, .int .i64 c.mode, .int .i64 c.slots, .int .i64 c.exact_, .int .u64 c.promote, .int .i64 c.depth, .int .i64 c.width, .int .i64 c.top, .int .i64 c.key, .slice C n k, .slice T m j, .int .u64 c.seed] 51) := by
  have h1 := h.length
  have h2 := h.lateness
  have h3 := h.windows
  go_enter Try.func93, Try.ntmps93
  go_wp2_with fail
  go_ret
  exact ⟨rfl, rfl⟩

theorem routes_ok (c : Cfg) (h : Fine c) (C T : Option Addr) (n k j : Nat) (w : World) :
    Calls Try.prog 94 #[Value.agg #[.int .i64 c.length, .int .i64 c.lateness, .int .i64 c.windows, .int .i64 c.shards, .int .i64 c.spread, .int .i64 c.queue, .int .i64 c.mode, .int .i64 c.slots, .int .i64 c.exact_, .int .u64 c.promote, .int .i64 c.depth, .int .i64 c.width, .int .i64 c.top, .int .i64 c.key, .slice C n k, .slice T 16 j, .int .u64 c.seed]] w fun e w' => e = .returned (.int .i64 0) ∧ w' = w.alloc (.cells #[.int .i64 c.length, .int .i64 c.lateness, .int .i64 c.windows, .int .i64 c.shards, .int .i64 c.spread, .int .i64 c.queue, .int .i64 c.mode, .int .i64 c.slots, .int .i64 c.exact_, .int .u64 c.promote, .int .i64 c.depth, .int .i64 c.width, .int .i64 c.top, .int .i64 c.key, .slice C n k, .slice T 16 j, .int .u64 c.seed] 51) := by
  have h1 := h.shards
  have h2 := h.spread
  go_enter Try.func94, Try.ntmps94
  go_wp2_with (go_at_call 63; refine (Hash.rcheck_16 _ _ _).mono ?_; rintro e w1 ⟨rfl, rfl⟩)
  go_ret
  exact ⟨rfl, rfl⟩

/-- the cells of size classes -/
def clv : List (Int × Int) → List Value
  | [] => []
  | c :: l => .int .i64 c.1 :: .int .i64 c.2 :: clv l
theorem clv_len : ∀ l : List (Int × Int), (clv l).length = l.length * 2
  | [] => rfl
  | c :: l => by simp [clv, clv_len l]; omega
theorem clv_at : ∀ (l : List (Int × Int)) (i : Nat) (c : Int × Int), l[i]? = some c → (clv l)[i * 2]? = some (.int .i64 c.1) ∧ (clv l)[i * 2 + 1]? = some (.int .i64 c.2)
  | [], _, _, h => by simp at h
  | d :: l, 0, c, h => by simp at h; subst h; exact ⟨rfl, rfl⟩
  | d :: l, i + 1, c, h => by
    have := clv_at l i c (by simpa using h)
    rw [show (i + 1) * 2 = i * 2 + 1 + 1 from by omega]
    simpa [clv] using this

def fitV (l : List (Int × Int)) (x : Int) (n : Nat) : Value := if fit l x < n then .tuple #[.int .i64 (fit l x), .int .i64 0] else .tuple #[.int .i64 0, .int .i64 1]
theorem fitV_lt {l : List (Int × Int)} {x : Int} {n : Nat} (h : fit l x < n) : fitV l x n = .tuple #[.int .i64 (fit l x), .int .i64 0] := if_pos h
theorem fitV_ge {l : List (Int × Int)} {x : Int} {n : Nat} (h : ¬ fit l x < n) : fitV l x n = .tuple #[.int .i64 0, .int .i64 1] := if_neg h
theorem fit_any (l : List (Int × Int)) (hl : ∀ c ∈ l, 1 ≤ c.1 ∧ c.1 ≤ 4096 ∧ 0 ≤ c.2 ∧ c.2 ≤ 65536) (C : Option Addr) (n k B : Nat) (w : World) (hr : Rd w B C 2 n (clv l)) (hB : B ≤ w.heap.size) (hn : n ≤ 140737488351232) (x : Int) (x0 : 1 ≤ x) (x1 : x ≤ 4096) :
    Calls Try.prog 83 #[.slice C n k, .int .i64 x] w fun e w' => e = .returned (fitV l x n) ∧ Keeps (fun _ => False) w w' := by
  have hlen : l.length = n := by have := hr.1; rw [clv_len] at this; omega
  have HL := hide hlen
  have HR := hide hr
  have HC := hide hl
  clear hlen hr hl
  go_enter Try.func83, Try.ntmps83
  go_wp2_with fail
  go_loopw [6, 7, 12] (fun _ _ i wr => ∃ j : Nat, j ≤ n ∧ i = .int .i64 j ∧ j ≤ fit l x ∧ Keeps (fun _ => False) w wr) (fun _ _ i _ => n - (intOf i).toNat)
  case atStart => exact ⟨0, by omega, rfl, by omega, Keeps.refl _ _⟩
  case round =>
    obtain ⟨j, hj, rfl, hjf, kp⟩ := hrel
    by_cases hlt : j < n
    · obtain ⟨c, hc⟩ : ∃ c, l[j]? = some c := ⟨l[j]'(by have := HL.out; omega), by simp⟩
      have hcl : l[j]'(by have := HL.out; omega) = c := by rw [List.getElem?_eq_getElem (by have := HL.out; omega)] at hc; injection hc
      have hb := HC.out c (List.mem_of_getElem? hc)
      obtain ⟨b, off, rfl, hbB, hcell⟩ := (HR.out.kept kp (fun _ _ h => h)).2 (by omega)
      obtain ⟨g1, g2⟩ := clv_at l j c hc
      have f1 := hcell _ _ g1
      have f2 := hcell _ _ g2
      rw [← Nat.add_assoc] at f2
      have hltI : (j : Int) < (n : Int) := by omega
      have KP := hide kp
      by_cases hx : x ≤ c.1
      · have hfit : fit l x = j := by
          rcases Nat.lt_or_ge j (fit l x) with h | h
          · have := fit_spec l x j h (by have := HL.out; omega)
            rw [hcl] at this; omega
          · omega
        have HV := hide (fitV_lt (n := n) (show fit l x < n by omega))
        rw [hfit] at HV
        clear hcell g1 g2 hc hcl kp hfit hjf
        go_wp2_with fail
        go_ret2
        exact ⟨by rw [HV.out]; rfl, KP.out.alloc _⟩
      · have hfit : j + 1 ≤ fit l x := by
          rcases Nat.lt_or_ge j (fit l x) with h | h
          · omega
          · exfalso
            have h2 : fit l x = j := by omega
            have := fit_at l x (by have := HL.out; omega)
            simp only [h2, hcl] at this
            omega
        have HF := hide hfit
        clear hcell g1 g2 hc hcl kp hfit hjf
        go_wp2_with fail
        go_roundw
        case rel => exact ⟨j + 1, by omega, by go_num, HF.out, KP.out.alloc _⟩
        case measure => simp [intOf]; omega
    · have : ¬ fit l x < n := by omega
      have HV := hide (fitV_ge this)
      clear this
      have KP := hide kp
      clear kp
      go_wp2_with fail
      go_ret2
      exact ⟨by rw [HV.out]; rfl, KP.out⟩

theorem asc_step (l : List (Int × Int)) (h : classesE l = 0) (i : Nat) (c d : Int × Int) (hc : l[i]? = some c) (hd : l[i + 1]? = some d) : c.1 < d.1 := by
  have h1 : classesFrom 0 l = 0 := by
    unfold classesE at h
    split at h
    · simp at h
    · exact h
  obtain ⟨h2, _⟩ := asc_of l 0 h1
  obtain ⟨hi, rfl⟩ := List.getElem?_eq_some_iff.1 hc
  obtain ⟨hj, rfl⟩ := List.getElem?_eq_some_iff.1 hd
  exact asc_lt l 0 h2 i (i + 1) hi hj (by omega)
theorem classes_bd (l : List (Int × Int)) (h : classesE l = 0) : (1 ≤ l.length ∧ l.length ≤ 8) ∧ ∀ c ∈ l, 1 ≤ c.1 ∧ c.1 ≤ 4096 ∧ 0 ≤ c.2 ∧ c.2 ≤ 65536 := by
  unfold classesE at h
  split at h
  · simp at h
  · exact ⟨by omega, (asc_of l 0 h).2⟩

theorem classes_ok (l : List (Int × Int)) (h : classesE l = 0) (C : Option Addr) (n k B : Nat) (w : World) (hr : Rd w B C 2 n (clv l)) (hB : B ≤ w.heap.size) :
    Calls Try.prog 95 #[.slice C n k] w fun e w' => e = .returned (.int .i64 0) ∧ Keeps (fun _ => False) w w' := by
  obtain ⟨⟨n0, n1⟩, hb⟩ := classes_bd l h
  have hlen : l.length = n := by have := hr.1; rw [clv_len] at this; omega
  rw [hlen] at n0 n1
  have HL := hide hlen
  have HR := hide hr
  have HC := hide hb
  have HS := hide (asc_step l h)
  have e0 : ((n : Int) == 0) = false := by simp; omega
  clear hlen hr hb h
  go_enter Try.func95, Try.ntmps95
  go_wp2_with fail
  go_loopw [3, 4, 15] (fun _ _ i wr => ∃ j : Nat, j ≤ n ∧ i = .int .i64 j ∧ Keeps (fun _ => False) w wr) (fun _ _ i _ => n - (intOf i).toNat)
  case atStart => exact ⟨0, by omega, rfl, Keeps.refl _ _⟩
  case round =>
    obtain ⟨j, hj, rfl, kp⟩ := hrel
    by_cases hlt : j < n
    · obtain ⟨c, hc⟩ : ∃ c, l[j]? = some c := ⟨l[j]'(by have := HL.out; omega), by simp⟩
      have hbc := HC.out c (List.mem_of_getElem? hc)
      obtain ⟨b, off, rfl, hbB, hcell⟩ := (HR.out.kept kp (fun _ _ h => h)).2 (by omega)
      obtain ⟨g1, g2⟩ := clv_at l j c hc
      have f1 := hcell _ _ g1
      have f2 := hcell _ _ g2
      rw [← Nat.add_assoc] at f2
      have hltI : (j : Int) < (n : Int) := by omega
      have hsz := kp.size
      have KP := hide kp
      rcases j with _ | i
      · simp only [Nat.zero_mul, Nat.add_zero] at f1 f2
        clear hcell g1 g2 hc kp
        go_wp2_with fail
        go_quiet (fail)
        go_wp2_with fail
        go_roundw
        case rel => exact ⟨1, by omega, by go_num, (KP.out.alloc _).drewN _⟩
        case measure => simp [intOf]; omega
      · obtain ⟨d, hd⟩ : ∃ d, l[i]? = some d := ⟨l[i]'(by have := HL.out; omega), by simp⟩
        have hcd := HS.out i d c hd hc
        have f3 := hcell _ _ (clv_at l i d hd).1
        have f4 : ∀ o, (wr.alloc o).cell? ⟨b, off + i * 2, none⟩ = some (.int .i64 d.1) := fun o => ((Keeps.refl (fun _ => False) wr).alloc o).cell_some f3 (fun h => h)
        have e1 : IntKind.i64.wrap (((i + 1 : Nat) : Int) - 1) = (i : Int) := by rw [IntKind.wrap_i64]; omega
        have e2 : ((((i + 1 : Nat) : Int) > 0) : Prop) := by omega
        have hin : (i : Int) < (n : Int) := by omega
        have E1 := hide e1
        clear hcell g1 g2 hc hd kp e1
        go_wp2_with fail
        have e1 := E1.out
        go_quiet (fail)
        go_wp2_with fail
        go_roundw
        case rel => exact ⟨i + 1 + 1, by omega, by go_num, (KP.out.alloc _).drewN _⟩
        case measure => simp [intOf]; omega
    · have KP := hide kp
      clear kp
      go_wp2_with fail
      go_ret
      exact ⟨rfl, KP.out⟩
end Go.Proofs.Ytaiopdipldaimaa
