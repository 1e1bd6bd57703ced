/-
  The demand of a configuration, counted up with the machine's sums, plainly.
-/
import Derived.Test.YtgjlibecgkhocaaCfs
import Derived.Test.YtgjlibecgkhocaaCf4
set_option linter.unusedVariables false
set_option linter.unusedSimpArgs false
namespace Go.Proofs.Ytgjlibecgkhocaa.Cfp
open Go.RowKit

def addAtW (o : List Int) (i : Nat) (n : Int) : List Int := o.set i (IntKind.i64.wrap (o.getD i 0 + n))
def giveW (l : List (Int × Int)) (o : List Int) (x : Int × Int) : List Int := addAtW o (fit l x.1) x.2
theorem giveW_len (l : List (Int × Int)) (o : List Int) (x : Int × Int) : (giveW l o x).length = o.length := by simp [giveW, addAtW]
theorem givesW_len (l : List (Int × Int)) : ∀ (xs : List (Int × Int)) (o : List Int), (xs.foldl (giveW l) o).length = o.length
  | [], _ => rfl
  | x :: xs, o => by rw [List.foldl_cons, givesW_len l xs, giveW_len]
theorem giveW_out (l : List (Int × Int)) (o : List Int) (x : Int × Int) (h : o.length ≤ fit l x.1) : giveW l o x = o := by
  unfold giveW addAtW
  rw [List.set_eq_of_length_le h]
theorem gives_eq (l : List (Int × Int)) (K : Int) (hK : 0 ≤ K) : ∀ (xs : List (Int × Int)) (o : List Int) (M : Int), (∀ x ∈ xs, 0 ≤ x.2 ∧ x.2 ≤ K) → 0 ≤ M → Bnd o M → M + K * xs.length ≤ 1000000000 → xs.foldl (giveW l) o = xs.foldl (give l) o
  | [], _, _, _, _, _, _ => rfl
  | x :: xs, o, M, hx, h0, hb, hm => by
    have h1 := hx x (by simp)
    have e1 : K * ((xs.length : Int) + 1) = K * xs.length + K := by rw [Int.mul_add, Int.mul_one]
    have h4 : 0 ≤ K * (xs.length : Int) := Int.mul_nonneg hK (by omega)
    have h2 : M + K * xs.length + K ≤ 1000000000 := by
      rw [List.length_cons] at hm; push_cast at hm; omega
    rw [List.foldl_cons, List.foldl_cons]
    have h3 : giveW l o x = give l o x := by
      unfold giveW give addAtW addAt
      by_cases hi : fit l x.1 < o.length
      · have := hb _ hi
        rw [show IntKind.i64.wrap (o.getD (fit l x.1) 0 + x.2) = o.getD (fit l x.1) 0 + x.2 from by rw [IntKind.wrap_i64]; omega]
      · rw [List.set_eq_of_length_le (by omega), List.set_eq_of_length_le (by omega)]
    rw [h3]
    refine gives_eq l K hK xs _ (M + K) (fun y hy => hx y (by simp [hy])) (by omega) ?_ (by omega)
    exact hb.add _ h1.1 h1.2
theorem keysL_bd (key t : Int) (h0 : 0 ≤ t) : ∀ (l : List (Int × Int)) (ls : Int), (∀ x ∈ keysL key t ls l, 0 ≤ x.2 ∧ x.2 ≤ t) ∧ (keysL key t ls l).length ≤ l.length
  | [], ls => by simp [keysL]
  | x :: l, ls => by
    unfold keysL
    split
    · simp
    · have := keysL_bd key t h0 l (x.1 + 1)
      refine ⟨?_, by simp; exact this.2⟩
      intro y hy
      rcases List.mem_cons.1 hy with rfl | hy
      · dsimp only; omega
      · exact this.1 y hy
end Go.Proofs.Ytgjlibecgkhocaa.Cfp
namespace Go.Proofs.Ytgjlibecgkhocaa
open Go.RowKit Cfp
theorem needs_wrapped (c : Cfg) (h : Fine c) (l : List (Int × Int)) (hl : classesE l = 0) (hm : Room c l) :
    (needs c l).foldl (giveW l) (List.replicate l.length 0) = demand0 c l := by
  obtain ⟨p, d, hp, hd, hm1, hm2, hm3⟩ := hm
  obtain ⟨⟨n0, n1⟩, hb⟩ := classes_bd l hl
  have h1 := h.swd
  have h2 := h.sq
  have h3 := h.tr
  have h4 := h.key
  have hk := keysL_bd c.key (tracked0 c + c.shards * c.queue) (by omega) l 1
  rw [gives_eq l 7000 (by omega) _ _ 0 ?_ (by omega) (Bnd.zero _) ?_]
  · have ha : classesFrom 0 l = 0 := by
      unfold classesE at hl
      split at hl
      · simp at hl
      · exact hl
    exact needs_fold c l 0 (asc_of l 0 ha).1 (fun c hc => (hb c hc).1) h4.1 (by have := fit_room hp hd hm3; omega)
  · intro x hx
    unfold needs at hx
    simp only [List.mem_cons] at hx
    rcases hx with rfl | rfl | rfl | hx
    · dsimp only; omega
    · dsimp only; omega
    · dsimp only; omega
    · have := hk.1 x hx; omega
  · unfold needs
    have := hk.2
    simp only [List.length_cons]
    omega
end Go.Proofs.Ytgjlibecgkhocaa
