/-
  Lists of structs as lists of cells. Bounds: of an entry, sums, caps and what they contain, each by its contract; the reference's too. No conditions beyond those of the statement. Entries, and their cells; strings in their order.
-/
import Derived.Test.YtaiopdipldaimaaBase
import Derived.Test.YtaiopdipldaimaaSat
import Derived.Test.YtaiopdipldaimaaMem3
import Derived.Deep.CutRange
import Derived.Deep.RegionWith
import Derived.Deep.RegionHeld3
set_option linter.unusedVariables false
set_option linter.unusedSimpArgs false
namespace Go.Proofs.Ytaiopdipldaimaa.Fl
open Go.RowKit
section flat
variable {α : Type} (f : α → List Value) (m : Nat) (hf : ∀ x, (f x).length = m)
include hf
theorem len (l : List α) : (l.flatMap f).length = l.length * m := by
  induction l with
  | nil => simp
  | cons x l ih => rw [List.flatMap_cons, List.length_append, hf, ih, List.length_cons, Nat.add_mul]; omega
theorem get : ∀ (l : List α) (i k : Nat) (x : α), l[i]? = some x → k < m → (l.flatMap f)[i * m + k]? = (f x)[k]?
  | [], _, _, _, h, _ => by simp at h
  | y :: l, 0, k, x, h, hk => by
    simp at h
    subst h
    rw [List.flatMap_cons, Nat.zero_mul, Nat.zero_add, List.getElem?_append_left (by rw [hf]; exact hk)]
  | y :: l, i + 1, k, x, h, hk => by
    rw [List.flatMap_cons, List.getElem?_append_right (by rw [hf, Nat.add_mul]; omega), hf]
    have := get l i k x (by simpa using h) hk
    rw [← this]
    congr 1
    rw [Nat.add_mul]; omega
theorem at_ (hm : 0 < m) : ∀ (l : List α) (q : Nat), (l.flatMap f)[q]? = (l[q / m]?).bind (fun x => (f x)[q % m]?)
  | [], q => by simp
  | x :: l, q => by
    rw [List.flatMap_cons]
    by_cases h : q < m
    · rw [List.getElem?_append_left (by rw [hf]; exact h), Nat.div_eq_of_lt h, Nat.mod_eq_of_lt h]
      simp
    · rw [List.getElem?_append_right (by rw [hf]; omega), hf, at_ hm l (q - m), Nat.mod_eq_sub_mod (by omega : q ≥ m), Nat.div_eq_sub_div hm (by omega : m ≤ q)]
      simp
theorem take (l : List α) (k : Nat) : (l.take k).flatMap f = (l.flatMap f).take (k * m) := by
  rcases Nat.lt_or_ge k l.length with h | h
  · have e : l.flatMap f = (l.take k).flatMap f ++ (l.drop k).flatMap f := by rw [← List.flatMap_append, List.take_append_drop]
    rw [e, List.take_left' (by rw [len f m hf, List.length_take]; congr 1; omega)]
  · rw [List.take_of_length_le h, List.take_of_length_le (by rw [len f m hf]; exact Nat.mul_le_mul_right _ h)]
theorem drop (l : List α) (k : Nat) : (l.drop k).flatMap f = (l.flatMap f).drop (k * m) := by
  rcases Nat.lt_or_ge k l.length with h | h
  · have e : l.flatMap f = (l.take k).flatMap f ++ (l.drop k).flatMap f := by rw [← List.flatMap_append, List.take_append_drop]
    rw [e, List.drop_left' (by rw [len f m hf, List.length_take]; congr 1; omega)]
  · rw [List.drop_of_length_le h, List.drop_of_length_le (by rw [len f m hf]; exact Nat.mul_le_mul_right _ h)]
    rfl
end flat
/-- the cells from o on are others -/
def sets : List Value → Nat → List Value → List Value
  | xs, _, [] => xs
  | xs, o, v :: vs => sets (xs.set o v) (o + 1) vs
theorem sets_get : ∀ (vs xs : List Value) (o q : Nat), (sets xs o vs)[q]? = if o ≤ q ∧ q < o + vs.length ∧ q < xs.length then vs[q - o]? else xs[q]?
  | [], xs, o, q => by simp [sets]; omega
  | v :: vs, xs, o, q => by
    rw [sets, sets_get vs (xs.set o v) (o + 1) q, List.length_set, List.length_cons]
    by_cases h1 : o + 1 ≤ q ∧ q < o + 1 + vs.length ∧ q < xs.length
    · rw [if_pos h1, if_pos (by omega), show q - o = (q - (o + 1)) + 1 by omega, List.getElem?_cons_succ]
    · rw [if_neg h1]
      by_cases h2 : o = q
      · subst h2
        by_cases h3 : o < xs.length
        · rw [if_pos (by omega)]; simp [h3]
        · rw [if_neg (by omega)]; simp [h3]
      · rw [if_neg (by omega), List.getElem?_set, if_neg h2]
theorem sets_flat {α : Type} (f : α → List Value) (m : Nat) (hf : ∀ x, (f x).length = m) (hm : 0 < m) (l : List α) (i : Nat) (y : α) (hi : i < l.length) : sets (l.flatMap f) (i * m) (f y) = (l.set i y).flatMap f := by
  refine List.ext_getElem? fun q => ?_
  have hd := Nat.div_add_mod q m
  have hml := Nat.mod_lt q hm
  rw [sets_get, at_ f m hf hm, at_ f m hf hm, List.getElem?_set, hf, len f m hf]
  by_cases e : i = q / m
  · subst e
    have hc : q / m * m = m * (q / m) := Nat.mul_comm _ _
    have h2 : q / m * m ≤ q ∧ q < q / m * m + m := by omega
    have h3 : q < l.length * m := by
      have : (q / m + 1) * m ≤ l.length * m := Nat.mul_le_mul_right _ hi
      rw [Nat.add_mul] at this
      omega
    rw [if_pos ⟨h2.1, h2.2, h3⟩, if_pos rfl, if_pos hi]
    show _ = (f y)[q % m]?
    congr 1
    omega
  · rw [if_neg (show ¬ i = q / m from e), if_neg]
    rintro ⟨h1, h2, _⟩
    refine e ?_
    have : q / m = i := by
      rw [Nat.div_eq_of_lt_le]
      · exact h1
      · rw [Nat.add_mul]; omega
    exact this.symm
end Go.Proofs.Ytaiopdipldaimaa.Fl

set_option linter.unusedVariables false
set_option linter.unusedSimpArgs false
namespace Go.Proofs.Ytaiopdipldaimaa
open Go.RowKit
/-- a value of bounds -/
abbrev bnd (lo hi : Int) : Value := .agg #[.int .u64 lo, .int .u64 hi]
abbrev bndC (lo hi : Int) : Array Value := #[.int .u64 lo, .int .u64 hi]
abbrev ent (k : ByteArray) (own slack : Int) : Value := .agg #[.string k, .int .u64 own, .int .u64 slack]
abbrev U (a : Int) : Prop := 0 ≤ a ∧ a < 18446744073709551616
theorem sum_bd (a b : Int) (ha : U a) (hb : U b) : U (Sat.add a b) := Sat.add_bd a b ha.1 hb.1
theorem rsum_any (a b : Int) (ha : U a) (hb : U b) (w : World) : Calls Try.prog 72 #[.int .u64 a, .int .u64 b] w fun e w' => e = .returned (.int .u64 (Sat.add a b)) ∧ w = w' := by
  obtain ⟨a0, a1⟩ := ha
  obtain ⟨b0, b1⟩ := hb
  go_enter Try.func72, Try.ntmps72
  go_wp2_with (go_at_call 91; refine (Sat.radd_any _ _ (by omega) (by omega) (by omega) (by omega) _).mono ?_; rintro e w1 ⟨rfl, rfl⟩)
  go_ret
  exact ⟨rfl, rfl⟩
theorem bof_any (k : ByteArray) (a b : Int) (ha : U a) (hb : U b) (w : World) :
    Calls Try.prog 77 #[ent k a b] w fun e w' => e = .returned (bnd a (Sat.add a b)) ∧ Keeps (fun _ => False) w w' := by
  obtain ⟨a0, a1⟩ := ha
  obtain ⟨b0, b1⟩ := hb
  go_enter Try.func77, Try.ntmps77
  go_wp2_with (go_at_call 69; refine (Sat.add_any _ _ (by omega) (by omega) (by omega) (by omega) _).mono ?_; rintro e w1 ⟨rfl, rfl⟩)
  refine bodyPost_ret (v := bnd a (Sat.add a b)) (by simp [results, Try.results77, go_sem]) rfl ?_
  exact ⟨rfl, by first | exact ((Keeps.refl _ _).alloc _).alloc _⟩
theorem rofe_any (k : ByteArray) (a b : Int) (ha : U a) (hb : U b) (w : World) :
    Calls Try.prog 80 #[ent k a b] w fun e w' => e = .returned (bnd a (Sat.add a b)) ∧ Keeps (fun _ => False) w w' := by
  obtain ⟨w2, hw2⟩ : ∃ w2, w2 = (w.alloc (.cells #[.string k, .int .u64 a, .int .u64 b] 99)).alloc (.cells (bndC 0 0) 81) := ⟨_, rfl⟩
  obtain ⟨g, hg⟩ : ∃ g, g = w.heap.size := ⟨_, rfl⟩
  have k2 : Keeps (fun _ => False) w w2 := by rw [hw2]; exact ((Keeps.refl _ _).alloc _).alloc _
  have b1 : Blk w2 g 99 #[.string k, .int .u64 a, .int .u64 b] := by rw [hw2, hg]; exact (Blk.new _ _ _).alloc _
  have b2 : Blk w2 (g + 1) 81 (bndC 0 0) := by rw [hw2, hg]; exact Blk.new_at _ _ _ _ (by simp)
  have c1 := b1.cell 1
  have c2 := b1.cell 2
  have f0 := b2.frozen 0
  have f1 := b2.frozen 1
  have d0 := b2.cell 0
  have d1 := b2.cell 1
  have hl := b2.lt
  have K2 := hide k2
  have HW2 := hide hw2
  have HG := hide hg
  clear hw2 k2 b1 hg
  obtain ⟨a0, a1⟩ := ha
  obtain ⟨e0, e1⟩ := hb
  go_enter Try.func80, Try.ntmps80
  go_upto_region 1 with fail
  rw [← HG.out] at ⊢
  rw [← HW2.out]
  have b2d : Hid (Blk w2.drew (g + 1) 81 (bndC 0 0)) := b2
  have HSg : Hid (∀ W, Keeps (· = g + 1) w2 W → (Keeps (· = g + 1) w2 W ∧ W.cell? ⟨g, 1, none⟩ = some (.int .u64 a) ∧ W.cell? ⟨g, 2, none⟩ = some (.int .u64 b))) := hide (fun W kW => ⟨kW, kW.cell_some c1 (by dsimp only; omega), kW.cell_some c2 (by dsimp only; omega)⟩)
  refine wp_region_held_drew (S := fun W => Keeps (· = g + 1) w2 W ∧ W.cell? ⟨g, 1, none⟩ = some (.int .u64 a) ∧ W.cell? ⟨g, 2, none⟩ = some (.int .u64 b)) (by kernel_rfl) (HSg.out _ (Keeps.refl _ _).drew) (fun hHeld => ?_)
  refine wpAnyH_take (i := 0) (v := ?_) rfl (by kernel_rfl) (by kernel_rfl) (by kernel_rfl) (fun _ _ _ h => h) (Or.inl ⟨by first | kernel_rfl | rfl, ?_⟩) (by assumption) ?_; rotate_left; focus (intro w hSw; (try dsimp only at hSw); go_simp; try (with_reducible rfl)); (try simp only [Act.put, List.getElem_toArray, List.getElem_cons_succ, List.getElem_cons_zero, List.setIfInBounds_toArray, List.set_cons_zero, List.set_cons_succ])
  refine wpAnyH_take (i := 1) (v := ?_) rfl (by kernel_rfl) (by kernel_rfl) (by kernel_rfl) (fun _ _ _ h => h) (Or.inl ⟨by first | kernel_rfl | rfl, ?_⟩) (by assumption) ?_; rotate_left; focus (intro w hSw; (try dsimp only at hSw); go_simp; try (with_reducible rfl)); (try simp only [Act.put, List.getElem_toArray, List.getElem_cons_succ, List.getElem_cons_zero, List.setIfInBounds_toArray, List.set_cons_zero, List.set_cons_succ])
  refine wpAnyH_take (i := 2) (v := ?_) rfl (by kernel_rfl) (by kernel_rfl) (by kernel_rfl) (fun _ _ _ h => h) (Or.inl ⟨by first | kernel_rfl | rfl, ?_⟩) (by assumption) ?_; rotate_left; focus (intro w hSw; (try dsimp only at hSw); go_simp; try (with_reducible rfl)); (try simp only [Act.put, List.getElem_toArray, List.getElem_cons_succ, List.getElem_cons_zero, List.setIfInBounds_toArray, List.set_cons_zero, List.set_cons_succ])
  refine wpAnyH_take (i := 3) (v := ?_) rfl (by kernel_rfl) (by kernel_rfl) (by kernel_rfl) (fun _ _ _ h => h) (Or.inl ⟨by first | kernel_rfl | rfl, ?_⟩) (by assumption) ?_; rotate_left; focus (intro w hSw; (try dsimp only at hSw); go_simp; try (with_reducible rfl)); (try simp only [Act.put, List.getElem_toArray, List.getElem_cons_succ, List.getElem_cons_zero, List.setIfInBounds_toArray, List.set_cons_zero, List.set_cons_succ])
  refine wpAnyH_take (i := 4) (v := ?_) rfl (by kernel_rfl) (by kernel_rfl) (by kernel_rfl) (fun _ _ _ h => h) (Or.inl ⟨by first | kernel_rfl | rfl, ?_⟩) (by assumption) ?_; rotate_left; focus (intro w hSw; (try dsimp only at hSw); go_simp; try (with_reducible rfl)); (try simp only [Act.put, List.getElem_toArray, List.getElem_cons_succ, List.getElem_cons_zero, List.setIfInBounds_toArray, List.set_cons_zero, List.set_cons_succ])
  refine wpAnyH_take (i := 5) (v := ?_) rfl (by kernel_rfl) (by kernel_rfl) (by kernel_rfl) (fun _ _ _ h => h) (Or.inl ⟨by first | kernel_rfl | rfl, ?_⟩) (by assumption) ?_; rotate_left; focus (intro w hSw; (try dsimp only at hSw); go_simp; try (with_reducible rfl)); (try simp only [Act.put, List.getElem_toArray, List.getElem_cons_succ, List.getElem_cons_zero, List.setIfInBounds_toArray, List.set_cons_zero, List.set_cons_succ])
  refine wpAnyH_ready (rs := [6]) (by kernel_rfl) (by simp) ?_
  refine AllReadyH.cons rfl (fun K hK => ?_) AllReadyH.nil
  go_simp
  go_at_call 72
  refine (rsum_any _ _ ⟨by omega, by omega⟩ ⟨by omega, by omega⟩ _).mono ?_
  rintro e w5 ⟨rfl, rfl⟩
  (try go_wp2_with fail)
  refine hK.out _ _ (HSg.out _ (Keeps.refl _ _).drew) (fun _ => ?_)
  clear hK K
  (try simp only [Act.put, List.getElem_toArray, List.getElem_cons_succ, List.getElem_cons_zero, List.setIfInBounds_toArray, List.set_cons_zero, List.set_cons_succ])
  refine wpAnyH_take (i := 7) (v := ?_) rfl (by kernel_rfl) (by kernel_rfl) (by kernel_rfl) (fun _ _ _ h => h) (Or.inl ⟨by first | kernel_rfl | rfl, ?_⟩) (by assumption) ?_; rotate_left; focus (intro w hSw; (try dsimp only at hSw); go_simp; try (with_reducible rfl)); (try simp only [Act.put, List.getElem_toArray, List.getElem_cons_succ, List.getElem_cons_zero, List.setIfInBounds_toArray, List.set_cons_zero, List.set_cons_succ])
  refine wpAnyH_ready (rs := [8]) (by kernel_rfl) (by simp) ?_
  refine AllReadyH.cons rfl (fun K hK => ?_) AllReadyH.nil
  go_simp
  obtain ⟨w6, hw6⟩ : ∃ w6, w6 = ((w2.setCell ⟨g + 1, 0, none⟩ (.int .u64 a)).setCell ⟨g + 1, 1, none⟩ (.int .u64 (Sat.add a b))).drew := ⟨_, rfl⟩
  rw [← hw6]
  have b6 : Blk w6 (g + 1) 81 (bndC a (Sat.add a b)) := by rw [hw6]; exact ((show Blk w2 _ _ _ from b2d.out).set 0 _).set 1 _
  have k6 : Keeps (· = g + 1) w2 w6 := by
    rw [hw6]
    exact (Keeps.setCell (S := (· = g + 1)) (p := ⟨g + 1, 1, none⟩) (Keeps.setCell (S := (· = g + 1)) (p := ⟨g + 1, 0, none⟩) (Keeps.refl _ _) (.inl rfl) _) (.inl rfl) _).drew
  refine hK.out _ _ (HSg.out _ k6) (fun _ => ?_)
  clear hK K
  (try simp only [Act.put, List.getElem_toArray, List.getElem_cons_succ, List.getElem_cons_zero, List.setIfInBounds_toArray, List.set_cons_zero, List.set_cons_succ])
  refine wpAnyH_done (by kernel_rfl) ?_ _
  (try simp only [Act.put, List.getElem_toArray, List.getElem_cons_succ, List.getElem_cons_zero, List.setIfInBounds_toArray, List.set_cons_zero, List.set_cons_succ])
  have r0 := b6.cell 0
  have r1 := b6.cell 1
  clear hHeld HSg hw6
  go_wp2_with fail
  refine bodyPost_ret (v := bnd a (Sat.add a b)) (by simp [results, Try.results80, go_sem, r0, r1]) rfl ?_
  exact ⟨rfl, K2.out.step k6 (fun b hb e => by have := HG.out; omega)⟩
def imin (a b : Int) : Int := if a ≤ b then a else b
theorem bcap_any (a b m : Int) (w : World) :
    Calls Try.prog 78 #[bnd a b, .int .u64 m] w fun e w' => e = .returned (bnd (imin a m) (imin b m)) ∧ Keeps (fun _ => False) w w' := by
  go_enter Try.func78, Try.ntmps78
  go_wp2_with fail
  all_goals
    refine bodyPost_ret (v := bnd (imin a m) (imin b m)) (by simp [results, Try.results78, go_sem]; constructor <;> (unfold imin; split <;> omega)) rfl ?_
    exact ⟨rfl, by first | exact (((Keeps.refl _ _).alloc _).alloc _)⟩
theorem rcap_any (a b m : Int) (w : World) :
    Calls Try.prog 79 #[bnd a b, .int .u64 m] w fun e w' => e = .returned (bnd (imin a m) (imin b m)) ∧ Keeps (fun _ => False) w w' := by
  go_enter Try.func79, Try.ntmps79
  go_wp2_with fail
  all_goals
    refine bodyPost_ret (v := bnd (imin a m) (imin b m)) (by simp [results, Try.results79, go_sem]; constructor <;> (unfold imin; split <;> omega)) rfl ?_
    exact ⟨rfl, by first | exact (((Keeps.refl _ _).alloc _).alloc _)⟩
def cont (a b n : Int) : Bool := decide (a ≤ n) && decide (n ≤ b)
end Go.Proofs.Ytaiopdipldaimaa

set_option linter.unusedVariables false
set_option linter.unusedSimpArgs false
namespace Go.Proofs.Ytaiopdipldaimaa
open Go.RowKit
abbrev bl (a b : List UInt8) : Bool := Op.bytesLess a b
theorem bl_irr : ∀ a : List UInt8, Op.bytesLess a a = false
  | [] => rfl
  | x :: a => by simp [Op.bytesLess, bl_irr a, UInt8.lt_irrefl]
theorem bl_tri : ∀ a b : List UInt8, Op.bytesLess a b = true ∨ a = b ∨ Op.bytesLess b a = true
  | [], [] => .inr (.inl rfl)
  | [], y :: b => .inl rfl
  | x :: a, [] => .inr (.inr rfl)
  | x :: a, y :: b => by
    rcases bl_tri a b with h | h | h
    · by_cases h1 : x < y
      · exact .inl (by simp [Op.bytesLess, h1])
      · by_cases h2 : y < x
        · exact .inr (.inr (by simp [Op.bytesLess, h2]))
        · have : x = y := UInt8.le_antisymm (UInt8.not_lt.1 h2) (UInt8.not_lt.1 h1)
          subst this
          exact .inl (by simp [Op.bytesLess, h])
    · subst h
      by_cases h1 : x < y
      · exact .inl (by simp [Op.bytesLess, h1])
      · by_cases h2 : y < x
        · exact .inr (.inr (by simp [Op.bytesLess, h2]))
        · have : x = y := UInt8.le_antisymm (UInt8.not_lt.1 h2) (UInt8.not_lt.1 h1)
          subst this
          exact .inr (.inl rfl)
    · by_cases h1 : x < y
      · exact .inl (by simp [Op.bytesLess, h1])
      · by_cases h2 : y < x
        · exact .inr (.inr (by simp [Op.bytesLess, h2]))
        · have : x = y := UInt8.le_antisymm (UInt8.not_lt.1 h2) (UInt8.not_lt.1 h1)
          subst this
          exact .inr (.inr (by simp [Op.bytesLess, h]))
theorem bl_tr : ∀ a b c : List UInt8, Op.bytesLess a b = true → Op.bytesLess b c = true → Op.bytesLess a c = true
  | [], _, [], _, h => by
    rename_i b _
    cases b <;> simp [Op.bytesLess] at h
  | [], _, z :: c, _, _ => rfl
  | x :: a, [], _, h, _ => by simp [Op.bytesLess] at h
  | x :: a, y :: b, [], _, h => by simp [Op.bytesLess] at h
  | x :: a, y :: b, z :: c, h1, h2 => by
    simp only [Op.bytesLess, Bool.or_eq_true, Bool.and_eq_true, decide_eq_true_eq, beq_iff_eq] at h1 h2 ⊢
    rcases h1 with h1 | ⟨rfl, h1⟩
    · rcases h2 with h2 | ⟨rfl, h2⟩
      · exact .inl (UInt8.lt_trans h1 h2)
      · exact .inl h1
    · rcases h2 with h2 | ⟨rfl, h2⟩
      · exact .inl h2
      · exact .inr ⟨rfl, bl_tr a b c h1 h2⟩
/-- a line -/
structure Ln where
  key : ByteArray
  lo : Int
  hi : Int
def lnC (x : Ln) : List Value := [.string x.key, .int .u64 x.lo, .int .u64 x.hi]
def lnCs (l : List Ln) : List Value := l.flatMap lnC
theorem lnCs_len (l : List Ln) : (lnCs l).length = l.length * 3 := Fl.len lnC 3 (fun _ => rfl) l
theorem lnCs_app (l m : List Ln) : lnCs (l ++ m) = lnCs l ++ lnCs m := List.flatMap_append
theorem lnCs_at {l : List Ln} {i : Nat} {x : Ln} (h : l[i]? = some x) : (lnCs l)[i * 3]? = some (.string x.key) ∧ (lnCs l)[i * 3 + 1]? = some (.int .u64 x.lo) ∧ (lnCs l)[i * 3 + 2]? = some (.int .u64 x.hi) :=
  ⟨Fl.get lnC 3 (fun _ => rfl) l i 0 x h (by omega), Fl.get lnC 3 (fun _ => rfl) l i 1 x h (by omega), Fl.get lnC 3 (fun _ => rfl) l i 2 x h (by omega)⟩
theorem lnCs_one (l : List Ln) : ∀ u ∈ lnCs l, u.oneCell' = true := by
  intro u hu
  unfold lnCs at hu
  rw [List.mem_flatMap] at hu
  obtain ⟨c, _, hu⟩ := hu
  simp [lnC] at hu
  rcases hu with rfl | rfl | rfl <;> rfl
theorem lnCs_set (l : List Ln) (i : Nat) (y : Ln) (hi : i < l.length) : (((lnCs l).set (i * 3) (.string y.key)).set (i * 3 + 1) (.int .u64 y.lo)).set (i * 3 + 2) (.int .u64 y.hi) = lnCs (l.set i y) :=
  Fl.sets_flat lnC 3 (fun _ => rfl) (by omega) l i y hi
theorem lnRd_len {w : World} {B n : Nat} {A : Option Addr} {l : List Ln} (h : Rd w B A 3 n (lnCs l)) : l.length = n := by
  have := h.1
  rw [lnCs_len] at this
  omega
theorem lnRd_at {w : World} {B n : Nat} {A : Option Addr} {l : List Ln} (h : Rd w B A 3 n (lnCs l)) {i : Nat} {x : Ln} (hx : l[i]? = some x) (hi : 0 < n) :
    ∃ b off, A = some ⟨b, off, none⟩ ∧ b < B ∧ (w.cell? ⟨b, off + i * 3, none⟩ = some (.string x.key) ∧ w.cell? ⟨b, off + i * 3 + 1, none⟩ = some (.int .u64 x.lo) ∧ w.cell? ⟨b, off + i * 3 + 2, none⟩ = some (.int .u64 x.hi)) := by
  obtain ⟨b, off, rfl, hb, hc⟩ := h.2 hi
  obtain ⟨g0, g1, g2⟩ := lnCs_at hx
  exact ⟨b, off, rfl, hb, hc _ _ g0, by rw [Nat.add_assoc]; exact hc _ _ g1, by rw [Nat.add_assoc]; exact hc _ _ g2⟩
theorem elemE : ElemOf Try.prog 42 99 3 32 := ElemOf.mk' (z := .agg #[.string ⟨#[]⟩, .int .u64 0, .int .u64 0]) Try.underlying42 (by kernel_rfl) rfl (by omega)
end Go.Proofs.Ytaiopdipldaimaa
