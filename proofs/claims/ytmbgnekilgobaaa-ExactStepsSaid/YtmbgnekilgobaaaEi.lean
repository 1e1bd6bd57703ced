/-
  The exact store: Entries. No conditions beyond those of the statement.
-/
import Derived.Test.YtmbgnekilgobaaaEh
set_option linter.unusedVariables false
set_option linter.unusedSimpArgs false
namespace Go.Proofs.Ytmbgnekilgobaaa
open Go.RowKit
set_option maxRecDepth 100000 in
theorem clone_en {w : World} {B : Nat} {A : Option Addr} {n c : Nat} {l : List Ln} (hr : Rd w B A 3 n (lnCs l)) (hn : n ≤ 1000000) :
    Calls Try.prog 66 #[.slice A n c] w fun e w' => ∃ A' c', e = .returned (.slice A' n c') ∧ Ens w' w.heap.size A' n c' l ∧ Keeps (fun _ => False) w w' := by
  cases A with
  | none =>
    obtain rfl : n = 0 := by
      rcases Nat.eq_zero_or_pos n with h | h
      · exact h
      · obtain ⟨b, off, e, _⟩ := hr.2 h; cases e
    obtain rfl : l = [] := List.eq_nil_of_length_eq_zero (lnRd_len hr)
    clear hr
    have heq := fun w => Lib.run_eql_slice_nil (P := Try.prog) w 72 53 none 0 c 0 0 Try.underlying72
    go_enter Try.func66, Try.ntmps66
    go_wp2_with fail
    go_ret
    exact ⟨none, 0, rfl, Own.nil _ _ _ _, Keeps.refl _ _⟩
  | some ad =>
    have HR := hide hr
    clear hr
    have heq := fun w => Lib.run_eql_slice_nil (P := Try.prog) w 72 53 (some ad) n c 0 0 Try.underlying72
    go_enter Try.func66, Try.ntmps66
    go_wp2_with (at_builtin; refine wpList_app _ elemEn rfl _ _ rfl w.heap.size _ rfl (Own.new0 _ _ 53 3 _ (by simp) (by omega)) _ (m := n) _ rfl (HR.out.kept ((Keeps.refl (fun _ => False) w).alloc _) (fun _ _ h => h)) (lnCs_one l) (by simp [maxLen]; omega) (by omega) (by simp) ?_; intro A5 c5 w5 o5 k5 hA5; rw [Nat.zero_add, List.nil_append] at o5; have O5 := hide o5; have K5 := hide k5; clear o5 k5 hA5)
    go_ret
    exact ⟨A5, c5, rfl, O5.out, ((Keeps.refl _ w).alloc _).step K5.out (fun k hk h => by have := (inB_some _ _ _).1 h; omega)⟩
theorem eentries_nil (w : World) : Calls Try.prog 46 #[.pointer none] w fun e w' => e = .returned (.slice none 0 0) ∧ w' = w := by
  go_enter Try.func46, Try.ntmps46
  go_wp2_with fail
  go_ret
  exact ⟨rfl, rfl⟩
theorem eentries_any (w : World) (B s : Nat) (N : Int) (A : Option Addr) (m c : Nat) (l : List Ln) (hb : Blk w s 93 #[.int .i64 N, .slice A m c]) (hr : Rd w B A 3 m (lnCs l)) (hm : m ≤ 1000000) :
    Calls Try.prog 46 #[.pointer (some ⟨s, 0, none⟩)] w fun e w' => ∃ A' c', e = .returned (.slice A' m c') ∧ Ens w' w.heap.size A' m c' l ∧ Keeps (fun _ => False) w w' := by
  have c1 := hb.cell 1
  have hl := hb.lt
  have HR := hide hr
  clear hb hr
  go_enter Try.func46, Try.ntmps46
  go_wp2_with fail
  refine (clone_en HR.out hm).mono ?_
  rintro e w1 ⟨A1, c1', rfl, h1, k1⟩
  have H1 := hide h1
  have K1 := hide k1
  clear h1 k1
  go_wp2_with fail
  go_ret
  exact ⟨A1, c1', rfl, H1.out, K1.out⟩
end Go.Proofs.Ytmbgnekilgobaaa
