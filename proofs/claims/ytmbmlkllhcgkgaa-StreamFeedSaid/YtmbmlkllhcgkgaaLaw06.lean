/-
  The reference's comparisons of streams and of chunks; Idle; the chapter's examples.
-/
import Derived.Test.YtmbmlkllhcgkgaaStreamR
import Derived.Test.YtmbmlkllhcgkgaaSame
set_option linter.unusedVariables false
set_option linter.unusedSimpArgs false
namespace Go.Proofs.Ytmbmlkllhcgkgaa
open Go.RowKit
open Vp Stp

def idleB (skip : Int) (broken : Bool) (n : Nat) : Bool := !broken && decide (skip = 0) && decide (n = 0)
theorem idle_any (skip : Int) (broken : Bool) (A : Option Addr) (n c : Nat) (w : World) :
    Calls Try.prog 14 #[.agg #[.slice A n c, .int .u64 skip, .bool broken]] w fun e w' => e = .returned (.bool (idleB skip broken n)) ∧ Keeps (fun _ => False) w w' := by
  cases broken
  case true =>
    go_enter Try.func14, Try.ntmps14
    go_wp2_with fail
    go_ret
    exact ⟨rfl, (Keeps.refl _ _).alloc _⟩
  case false =>
    by_cases hs : skip = 0
    · subst hs
      by_cases hn : n = 0
      · subst hn
        go_enter Try.func14, Try.ntmps14
        go_wp2_with fail
        go_ret
        exact ⟨rfl, (Keeps.refl _ _).alloc _⟩
      · have e1 : ((n : Int) == 0) = false := by simp; omega
        have HI : Hid (false = idleB 0 false n) := by simp [Hid, idleB, hn]
        clear hn
        go_enter Try.func14, Try.ntmps14
        go_wp2_with fail
        go_ret
        exact ⟨ret_bool HI.out, (Keeps.refl _ _).alloc _⟩
    · have e1 : (skip == 0) = false := by simpa using hs
      have HI : Hid (false = idleB skip false n) := by simp [Hid, idleB, hs]
      clear hs
      go_enter Try.func14, Try.ntmps14
      go_wp2_with fail
      go_ret
      exact ⟨ret_bool HI.out, (Keeps.refl _ _).alloc _⟩
theorem ridle_any (skip : Int) (broken : Bool) (A : Option Addr) (n c : Nat) (w : World) :
    Calls Try.prog 15 #[.agg #[.slice A n c, .int .u64 skip, .bool broken]] w fun e w' => e = .returned (.bool (idleB skip broken n)) ∧ Keeps (fun _ => False) w w' := by
  cases broken
  case true =>
    go_enter Try.func15, Try.ntmps15
    go_wp2_with fail
    go_ret
    exact ⟨rfl, (Keeps.refl _ _).alloc _⟩
  case false =>
    by_cases hs : skip = 0
    · subst hs
      by_cases hn : n = 0
      · subst hn
        go_enter Try.func15, Try.ntmps15
        go_wp2_with fail
        go_ret
        exact ⟨rfl, (Keeps.refl _ _).alloc _⟩
      · have e1 : ((n : Int) == 0) = false := by simp; omega
        have HI : Hid (false = idleB 0 false n) := by simp [Hid, idleB, hn]
        clear hn
        go_enter Try.func15, Try.ntmps15
        go_wp2_with fail
        go_ret
        exact ⟨ret_bool HI.out, (Keeps.refl _ _).alloc _⟩
    · have e1 : (skip == 0) = false := by simpa using hs
      have HI : Hid (false = idleB skip false n) := by simp [Hid, idleB, hs]
      clear hs
      go_enter Try.func15, Try.ntmps15
      go_wp2_with fail
      go_ret
      exact ⟨ret_bool HI.out, (Keeps.refl _ _).alloc _⟩

theorem sameStream_any (l : List UInt8) (A A2 : Option Addr) (n n2 c c2 B B2 : Nat) (skip : Int) (broken : Bool) (w : World) (hr : Rd w B A 1 n (l.map by8)) (hr2 : Rd w B2 A2 1 n2 (l.map by8)) (hn : n ≤ 140737488351232) :
    Calls Try.prog 10 #[.agg #[.slice A n c, .int .u64 skip, .bool broken], .agg #[.slice A2 n2 c2, .int .u64 skip, .bool broken]] w fun e w' => e = .returned (.bool true) ∧ Keeps (fun _ => False) w w' := by
  have h1 : l.length = n := by simpa using hr.1
  have h2 : l.length = n2 := by simpa using hr2.1
  obtain rfl : n = n2 := by omega
  have KA := ((Keeps.refl (fun _ => False) w).alloc (.cells #[.slice A n c, .int .u64 skip, .bool broken] 28)).alloc (.cells #[.slice A2 n c2, .int .u64 skip, .bool broken] 28)
  have hs := same_any l l A A2 n n c c2 B B2 _ (hr.kept KA (fun _ _ h => h)) (hr2.kept KA (fun _ _ h => h)) hn hn
  rw [decide_eq_true (rfl : l = l)] at hs
  have HS := hide hs
  have HK := hide KA
  clear hr hr2 h1 h2 KA hs
  go_enter Try.func10, Try.ntmps10
  go_wp2_with fail
  refine HS.out.mono ?_
  rintro e w1 ⟨rfl, nq, rfl⟩
  cases broken
  all_goals
    go_wp2_with fail
    go_ret
    exact ⟨rfl, HK.out.drewN _⟩

set_option maxHeartbeats 1000000 in
theorem sameChunks_any (L : List Ch) (C C2 : Option Addr) (m m2 mc mc2 : Nat) (cells cells2 : List Value) (P Q : Nat → Prop) (B B2 : Nat) (w : World) (hr : Rd w B C 2 m cells) (hr2 : Rd w B2 C2 2 m2 cells2)
    (hc : ChCells w P cells L) (hc2 : ChCells w Q cells2 L) (hm : m ≤ 140737488351232) (hb : ∀ ch ∈ L, ch.body.length ≤ 140737488351232) :
    Calls Try.prog 11 #[.slice C m mc, .slice C2 m2 mc2] w fun e w' => e = .returned (.bool true) ∧ ∃ nq, w' = w.drewN nq := by
  have h1 := hc.len
  have h2 := hc2.len
  have h3 := hr.1
  have h4 := hr2.1
  obtain rfl : m = m2 := by omega
  have hml : m = L.length := by omega
  have HM := hide hml
  clear h1 h2 h3 h4 hml
  go_enter Try.func11, Try.ntmps11
  go_wp2_with fail
  go_loopw [5, 13] (fun _ i wr => ∃ k : Nat, k ≤ m ∧ i = .int .i64 k ∧ ∃ nq, wr = w.drewN nq) (fun _ i _ => m - (intOf i).toNat)
  case atStart => exact ⟨0, by omega, rfl, 0, rfl⟩
  case round =>
    obtain ⟨k, hk, rfl, nq, rfl⟩ := hrel
    by_cases hlt : k < m
    · obtain ⟨ch, hch⟩ : ∃ ch, L[k]? = some ch := ⟨L[k]'(by have := HM.out; omega), by simp⟩
      obtain ⟨A, n, c, g1, g2, g3⟩ := hc.at_ k ch hch
      obtain ⟨A2, n2, c2, g4, g5, g6⟩ := hc2.at_ k ch hch
      obtain ⟨b, off, rfl, _, hcell⟩ := hr.2 (by omega)
      obtain ⟨b2, off2, rfl, _, hcell2⟩ := hr2.2 (by omega)
      have f1 := hcell _ _ g1
      have f2 := hcell _ _ g2
      have f3 := hcell2 _ _ g4
      have f4 := hcell2 _ _ g5
      have hbl := hb ch (List.mem_of_getElem? hch)
      have hn1 : n ≤ 140737488351232 := by have := g3.1; simp at this; omega
      have hn2 : n2 ≤ 140737488351232 := by have := g6.1; simp at this; omega
      have HS := hide (fun q => same_any ch.body ch.body A A2 n n2 c c2 w.heap.size w.heap.size (w.drewN q) g3.rd g6.rd hn1 hn2)
      rw [decide_eq_true (rfl : ch.body = ch.body)] at HS
      rw [← Nat.add_assoc] at f2 f4
      have hltI : (k : Int) < (m : Int) := by omega
      generalize ch.v = v at *
      clear hr hr2 hc hc2 hb hch g1 g2 g3 g4 g5 g6 hcell hcell2 hbl
      go_wp2_with fail
      go_quiet ((go_at_call 17; exact quiet_add (HS.out _)))
      go_wp2_with fail
      go_roundw
      case rel => exact ⟨k + 1, by omega, by go_num, _, rfl⟩
      case measure => simp [intOf]; omega
    · go_wp2_with fail
      go_ret
      exact ⟨rfl, nq, rfl⟩
end Go.Proofs.Ytmbmlkllhcgkgaa
