/-
  Handles in memory; which handles are live.
-/
import Derived.Test.YtidobhflijdccaaAk
import Derived.Test.YtidobhflijdccaaOt
set_option linter.unusedVariables false
set_option linter.unusedSimpArgs false
namespace Go.Proofs.Ytidobhflijdccaa
open Go.RowKit Cfp
theorem i64_and127 (n : Int) : bits .and .i64 n 127 = n % 128 := by
  have h15 : (BitVec.ofInt 64 127).toNat = 2 ^ 7 - 1 := by decide
  have key : (BitVec.ofInt 64 n &&& BitVec.ofInt 64 127).toNat = (n % ((2 ^ 64 : Nat) : Int)).toNat % 2 ^ 7 := by
    rw [BitVec.toNat_and, BitVec.toNat_ofInt, h15, Nat.and_two_pow_sub_one_eq_mod]
  show IntKind.i64.wrap ((BitVec.ofInt 64 n &&& BitVec.ofInt 64 127).toNat : Nat) = n % 128
  rw [key, IntKind.wrap_i64]
  omega
abbrev Hd := Nat × Nat × Int
def hdC (h : Hd) : List Value := [.int .i64 h.1, .int .i64 h.2.1, .int .i64 h.2.2]
def hdCs (l : List Hd) : List Value := l.flatMap hdC
theorem hdCs_len (l : List Hd) : (hdCs l).length = l.length * 3 := flat_len _ 3 (fun _ => rfl) l
theorem hdCs_at {l : List Hd} {i : Nat} {x : Hd} (h : l[i]? = some x) : (hdCs l)[i * 3]? = some (.int .i64 x.1) ∧ (hdCs l)[i * 3 + 1]? = some (.int .i64 x.2.1) ∧ (hdCs l)[i * 3 + 2]? = some (.int .i64 x.2.2) :=
  ⟨flat_get _ 3 (fun _ => rfl) l i 0 x h (by omega), flat_get _ 3 (fun _ => rfl) l i 1 x h (by omega), flat_get _ 3 (fun _ => rfl) l i 2 x h (by omega)⟩
theorem hdCs_app (l m : List Hd) : hdCs (l ++ m) = hdCs l ++ hdCs m := List.flatMap_append
theorem hdCs_one (l : List Hd) : ∀ u ∈ hdCs l, u.oneCell' = true := by
  intro u hu
  unfold hdCs at hu
  rw [List.mem_flatMap] at hu
  obtain ⟨c, _, hu⟩ := hu
  simp [hdC] at hu
  rcases hu with rfl | rfl | rfl <;> rfl
theorem elemH : ElemOf Try.prog 49 40 3 24 := ElemOf.mk' (z := .agg #[.int .i64 0, .int .i64 0, .int .i64 0]) Try.underlying49 (by kernel_rfl) rfl (by omega)
/-- these handles are live, and of different slots -/
structure HeldC (s : Ar) (H : List Hd) : Prop where
  lv : ∀ x ∈ H, ∃ d, LV s x.1 x.2.1 x.2.2 d
  nd : (H.map (fun h => (h.1, h.2.1))).Nodup
theorem HeldC.nil (s : Ar) : HeldC s [] := ⟨by simp, by simp⟩
theorem HeldC.gone {s s' : Ar} {H : List Hd} {x : Hd} (h : HeldC s (x :: H)) (g : Gone s s' x.1 x.2.1) : HeldC s' H := by
  have hn := h.nd
  rw [List.map_cons, List.nodup_cons] at hn
  refine ⟨fun y hy => ?_, hn.2⟩
  obtain ⟨d, hd⟩ := h.lv y (List.mem_cons_of_mem _ hy)
  refine ⟨d, (g.lvs _ _ _ _).2 ⟨hd, fun e => hn.1 ?_⟩⟩
  rw [← e.1, ← e.2]
  exact List.mem_map.2 ⟨y, hy, rfl⟩
theorem HeldC.got {s s' : Ar} {H : List Hd} (h : HeldC s H) {i k : Nat} {age size : Int} (g : Got s s' i k age size) : HeldC s' (H ++ [(i, k, age)]) := by
  refine ⟨fun y hy => ?_, ?_⟩
  · rcases List.mem_append.1 hy with hy | hy
    · obtain ⟨d, hd⟩ := h.lv y hy
      exact ⟨d, (g.lvs _ _ _ _).2 (.inr hd)⟩
    · obtain rfl := List.mem_singleton.1 hy
      exact ⟨[], (g.lvs _ _ _ _).2 (.inl ⟨rfl, rfl, rfl, rfl⟩)⟩
  · rw [List.map_append, List.nodup_append]
    refine ⟨h.nd, by simp, fun a ha b hb => ?_⟩
    obtain ⟨y, hy, rfl⟩ := List.mem_map.1 ha
    simp at hb
    subst hb
    intro e
    injection e with e1 e2
    obtain ⟨d, hd⟩ := h.lv y hy
    exact g.old y.2.2 d (by rw [← e1, ← e2]; exact hd)
end Go.Proofs.Ytidobhflijdccaa
