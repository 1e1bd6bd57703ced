/-
  A summary that was drawn: how it lies in memory, its estimates, and that it is valid. No conditions beyond those of the statement.
-/
import Derived.Test.YtaiopdipldaimaaYg
import Derived.Test.YtaiopdipldaimaaYo
import Derived.Test.YtaiopdipldaimaaYj
set_option linter.unusedVariables false
set_option linter.unusedSimpArgs false
namespace Go.Proofs.Ytaiopdipldaimaa
open Go.RowKit Cfp
/-- the rows of a drawn summary -/
def rowP (n : Nat) (P : List (Nat × List Int)) : RowsF := fun j => (some ⟨(P.getD j (0, [])).1, 0, none⟩, n, n, (P.getD j (0, [])).2)
theorem rowP_L (n : Nat) (P : List (Nat × List Int)) : Cmp.rowsL (rowP n P) P.length = P.map (fun p => p.2) := by
  refine List.ext_getElem? fun i => ?_
  by_cases h : i < P.length
  · simp [Cmp.rowsL, rowP, h, List.getD]
  · simp [Cmp.rowsL, h]
theorem rowP_cells (n : Nat) (P : List (Nat × List Int)) : (List.range P.length).map (fun j => Value.slice (rowP n P j).1 (rowP n P j).2.1 (rowP n P j).2.2.1) = dsum.rcs n P := by
  refine List.ext_getElem? fun i => ?_
  by_cases h : i < P.length
  · simp [dsum.rcs, rowP, h, List.getD]
  · simp [dsum.rcs, h]
theorem sum_in {w : World} {B0 : Nat} {tot left : Int} {kb : Nat} {l : List Ln} {A R : Option Addr} {cA cR n : Nat} {P : List (Nat × List Int)} (t1 : tot ≤ 9223372036854775808) (hl : l.length ≤ 4) (hP4 : P.length ≤ 4) (hn : n ≤ 9)
    (hok : EOk tot left kb l) (hA : Own w B0 99 3 A l.length cA (lnCs l)) (hR : Own w B0 31 1 R P.length cR (dsum.rcs n P))
    (hP : ∀ p ∈ P, p.2.length = n ∧ (∀ z ∈ p.2, 0 ≤ z ∧ z ≤ tot) ∧ Blk w p.1 24 (p.2.map (.int .u64)).toArray) :
    SmIn w w.heap.size A l.length l R P.length (rowP n P) := by
  refine ⟨rfl, hA.rd (by omega), by rw [rowP_cells]; exact hR.rd (by omega), fun j hj => ?_, fun x hx => ?_, by omega, by omega⟩
  · have hm : P.getD j (0, []) ∈ P := by rw [List.getD, List.getElem?_eq_getElem hj]; exact List.getElem_mem hj
    obtain ⟨h1, h2, h3⟩ := hP _ hm
    refine ⟨h3.rd (n := n) (sz := 1) (by rw [List.length_map, h1]; omega), fun z hz => ?_, Nat.le_refl _, by show n ≤ maxLen; simp only [maxLen]; omega⟩
    obtain ⟨z0, z1⟩ := h2 z hz
    have h1 : IntKind.u64.min = 0 := rfl
    have h2 : IntKind.u64.max = 18446744073709551615 := rfl
    simp only [Lit.wf, Bool.and_eq_true, decide_eq_true_eq]
    omega
  · obtain ⟨o1, o2, o3⟩ := hok.own x hx
    obtain ⟨m, _, _, hk⟩ := hok.key x hx
    exact ⟨⟨by omega, by omega⟩, ⟨by omega, by omega⟩, by rw [hk, keyOf_size]; omega⟩
theorem est_bd {tot : Int} (t0 : 0 ≤ tot) (n : Nat) (hn : 0 < n) (P : List (Nat × List Int)) (hP : ∀ p ∈ P, p.2.length = n ∧ (∀ z ∈ p.2, 0 ≤ z ∧ z ≤ tot)) (zs : List Int) (hz : zs.length = 16) (seed : Int) (k : List UInt8) :
    0 ≤ estS tot P.length (rowP n P) zs seed k ∧ estS tot P.length (rowP n P) zs seed k ≤ tot := by
  unfold estS
  by_cases h : P.length = 0
  · rw [if_pos h]; omega
  · rw [if_neg h, rowP_L]
    unfold Cmp.ofV
    rw [if_neg (by simp [hz]; intro e; exact h (by simp [e])), List.length_map]
    refine Cmp.least_bd (d := P.length) (n := n) ⟨by simp, fun i hi => ?_, fun i j => ?_⟩ hn (by omega)
    · rw [List.getD, List.getElem?_map, List.getElem?_eq_getElem hi]
      exact (hP _ (List.getElem_mem hi)).1
    · unfold Cmp.cell
      by_cases hi : i < P.length
      · have hg : (P.map (fun p => p.2)).getD i [] = (P[i]).2 := by rw [List.getD, List.getElem?_map, List.getElem?_eq_getElem hi]; rfl
        rw [hg]
        have h2 := (hP _ (List.getElem_mem hi)).2
        by_cases hj : j < (P[i]).2.length
        · rw [List.getD, List.getElem?_eq_getElem hj]
          exact h2 _ (List.getElem_mem hj)
        · rw [List.getD, List.getElem?_eq_none (by omega)]; simp; omega
      · have : (P.map (fun p => p.2)).getD i [] = [] := by rw [List.getD, List.getElem?_eq_none (by simp; omega)]; rfl
        rw [this]; simp; omega
/-- what the law asks of the bounds of any key -/
theorem kept_bd {tot un left est : Int} {kb : Nat} {l : List Ln} (t0 : 0 ≤ tot) (hok : EOk tot left kb l) (hu : 0 ≤ un ∧ un ≤ tot) (t1 : tot ≤ 9223372036854775808) (he : 0 ≤ est ∧ est ≤ tot) (k : ByteArray) :
    imin (loS l k) est ≤ imin (hiS l un k) est ∧ imin (hiS l un k) est ≤ tot ∧ (¬ keyAt l k < l.length → imin (loS l k) est = 0 ∧ imin (hiS l un k) est ≤ un) := by
  have h0 : 0 ≤ loS l k ∧ loS l k ≤ hiS l un k ∧ (¬ keyAt l k < l.length → loS l k = 0 ∧ hiS l un k = un) := by
    unfold loS hiS
    rcases hx : l[keyAt l k]? with _ | x
    · simp; omega
    · have hm := List.mem_of_getElem? hx
      obtain ⟨o1, o2, o3⟩ := hok.own x hm
      have ha := Sat.add_yes (show x.lo + x.hi ≤ 18446744073709551615 by omega)
      simp only [ha.1]
      have := (List.getElem?_eq_some_iff.1 hx).1
      exact ⟨by omega, by omega, fun h => absurd this h⟩
  refine ⟨?_, ?_, fun h => ?_⟩
  · unfold imin; split <;> split <;> omega
  · unfold imin; split <;> omega
  · obtain ⟨a, b⟩ := h0.2.2 h
    rw [a, b]
    unfold imin; constructor <;> split <;> omega
theorem sum_take_le {l : List Ln} (h : ∀ x ∈ l, 0 ≤ x.lo) : 0 ≤ (l.map Ln.lo).sum := by
  induction l with
  | nil => simp
  | cons x l ih =>
    have h1 := h x (by simp)
    have h2 := ih (fun y hy => h y (by simp [hy]))
    simp; omega
theorem accE_exact : ∀ (l : List Ln) (s : Int), 0 ≤ s → (∀ x ∈ l, 0 ≤ x.lo) → s + (l.map Ln.lo).sum ≤ 18446744073709551615 →
    l.foldl (fun a x => (Sat.add a.1 x.lo, a.2 && Sat.addOk a.1 x.lo)) (s, true) = (s + (l.map Ln.lo).sum, true)
  | [], s, _, _, _ => by simp
  | x :: l, s, hs, h, hb => by
    have h1 := h x (by simp)
    have h2 : ∀ y ∈ l, 0 ≤ y.lo := fun y hy => h y (by simp [hy])
    have h3 := sum_take_le h2
    simp only [List.map_cons, List.sum_cons] at hb
    have ha := Sat.add_yes (show s + x.lo ≤ 18446744073709551615 by omega)
    rw [List.foldl_cons, ha.1, ha.2, Bool.true_and, accE_exact l (s + x.lo) (by omega) h2 (by omega)]
    simp; omega
theorem scanE_zero (tot : Int) (l : List Ln) (h : ∀ i x, l[i]? = some x → entryE tot l i x = 0) : ∀ (r : List Ln) (i : Nat), r = l.drop i → scanE tot l r i = 0
  | [], _, _ => rfl
  | x :: r, i, e => by
    have hx : l[i]? = some x := by have := congrArg (fun m => m[0]?) e; simp at this; exact this.symm
    have hr : r = l.drop (i + 1) := by have := congrArg List.tail e; simpa using this
    show (if entryE tot l i x = 0 then scanE tot l r (i + 1) else _) = 0
    rw [if_pos (h i x hx)]
    exact scanE_zero tot l h r (i + 1) hr
/-- a drawn summary is valid -/
theorem check_made {tot un left : Int} {kb : Nat} {l : List Ln} (t0 : 0 ≤ tot) (t1 : tot ≤ 9223372036854775808) (hu : 0 ≤ un ∧ un ≤ tot) (hl : l.length ≤ 4) (hok : EOk tot left kb l) (d wd : Int) (R : List (List Int)) (hR : R = [] ∨ ((R.length : Int) = d ∧ ∀ r ∈ R, (r.length : Int) = wd ∧ ∀ z ∈ r, z ≤ tot)) :
    checkE d wd tot un l R = 0 := by
  have hent : ∀ i x, l[i]? = some x → entryE tot l i x = 0 := fun i x hx => by
    have hm := List.mem_of_getElem? hx
    obtain ⟨o1, o2, o3⟩ := hok.own x hm
    obtain ⟨n, n1, n2, hk⟩ := hok.key x hm
    have ha := Sat.add_yes (show x.lo + x.hi ≤ 18446744073709551615 by omega)
    have hs : x.key.size = 1 := by rw [hk, keyOf_size]
    have hp : prevLe l i x = false := by
      unfold prevLe
      by_cases h0 : i = 0
      · rw [if_pos h0]
      · rw [if_neg h0]
        rcases hy : l[i - 1]? with _ | y
        · rfl
        · have hi := (List.getElem?_eq_some_iff.1 hx).1
          have hlt : bl y.key.toList x.key.toList = true := by
            have := List.pairwise_iff_getElem.1 hok.asc (i - 1) i (by omega) hi (by omega)
            rwa [(List.getElem?_eq_some_iff.1 hy).2, (List.getElem?_eq_some_iff.1 hx).2] at this
          show (Op.bytesLess x.key.toList y.key.toList || x.key.toList == y.key.toList) = false
          rcases h1 : Op.bytesLess x.key.toList y.key.toList with _ | _
          · rcases h2 : x.key.toList == y.key.toList with _ | _
            · rfl
            · have h3 : x.key.toList = y.key.toList := by simpa using h2
              rw [h3] at hlt; exact absurd hlt (by rw [show bl y.key.toList y.key.toList = false from bl_irr _]; simp)
          · have h4 := bl_tr _ _ _ hlt h1
            exact absurd h4 (by rw [bl_irr]; simp)
    unfold entryE
    rw [if_neg (by omega), if_neg (by omega), if_neg (by simp [hp]), if_neg]
    rw [ha.1, ha.2]
    simp; omega
  have hacc : accE l = (0 + (l.map Ln.lo).sum, true) := accE_exact l 0 (by omega) (fun x hx => by have := hok.own x hx; omega) (by have := hok.sum; have := hok.left0; omega)
  unfold checkE
  rw [if_neg (by omega), if_neg (by omega), if_pos (scanE_zero tot l hent l 0 (by simp)), hacc, if_neg (by have := hok.sum; have := hok.left0; simp; omega)]
  unfold rowsE
  rcases hR with rfl | ⟨hd, hr⟩
  · rfl
  · by_cases h0 : R.length = 0
    · rw [if_pos h0]
    · rw [if_neg h0, if_neg (by simp [hd]), if_neg, if_neg]
      · intro he
        obtain ⟨r, hr1, hr2⟩ := List.any_eq_true.1 he
        obtain ⟨z, hz1, hz2⟩ := List.any_eq_true.1 hr2
        have := (hr r hr1).2 z hz1
        simp at hz2; omega
      · intro he
        obtain ⟨r, hr1, hr2⟩ := List.any_eq_true.1 he
        simp [(hr r hr1).1] at hr2
end Go.Proofs.Ytaiopdipldaimaa
