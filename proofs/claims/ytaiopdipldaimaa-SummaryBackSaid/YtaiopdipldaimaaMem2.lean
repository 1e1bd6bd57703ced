/-
  More on slices, and on calls in regions that only read.
-/
import Derived.Test.YtaiopdipldaimaaMem
set_option linter.unusedVariables false
set_option linter.unusedSimpArgs false
namespace Go.Proofs.Ytaiopdipldaimaa
open Go.RowKit Go.ChangeShapes Go.WideShapes

/-- 's[lo:hi]' of a slice that reads as a list -/
theorem sub_lh {P : Program} {t e : TypeId} {sz bytes : Nat} (E : ElemOf P t e sz bytes) (A : Option Addr) (n c : Nat) (k k' : IntKind) (x y : Int) (h0 : 0 ≤ x) (h1 : x ≤ y) (h2 : y ≤ n) (hnc : n ≤ c) :
    ∃ A', (∀ w, (Instr.sliceAt t (.slice A n c) (some (.int k x)) (some (.int k' y)) none).run P w = .ok (.slice A' (y.toNat - x.toNat) (c - x.toNat)) w) ∧
      (∀ w B xs, Rd w B A sz n xs → Rd w B A' sz (y.toNat - x.toNat) ((xs.drop (x.toNat * sz)).take ((y.toNat - x.toNat) * sz))) ∧ (∀ j, inB A' j → inB A j) := by
  obtain ⟨ht, ⟨i, z, hi, hz, hsize, hby, hzs⟩, hpos⟩ := E
  have hel : P.elem t = e := by simp [Program.elem, ht]
  refine ⟨if c = x.toNat then A else A.map (·.add (x.toNat * sz)), fun w => ?_, fun w B xs hr => ⟨?_, fun hn => ?_⟩, fun j hj => ?_⟩
  · rw [run_sliceAt_slice _ _ _ _ _ _ (by rw [hel]; exact ht), run_slice_lh _ _ _ _ _ (by rw [hel]; exact ht) _ _ _ _ h0 h1 (by omega)]
    simp [sizeOf, typeInfo, hel, hi, hsize, sliced]
  · rw [List.length_take, List.length_drop, hr.1, ← Nat.sub_mul]
    have := Nat.mul_le_mul_right sz (show y.toNat - x.toNat ≤ n - x.toNat by omega)
    omega
  · obtain ⟨b, off, rfl, hb, hc⟩ := hr.2 (by omega)
    have key : ∀ off', off' = off + x.toNat * sz → ∀ j u, ((xs.drop (x.toNat * sz)).take ((y.toNat - x.toNat) * sz))[j]? = some u → w.cell? ⟨b, off' + j, none⟩ = some u := by
      rintro off' rfl j u hu
      rw [List.getElem?_take] at hu
      split at hu
      · rw [List.getElem?_drop] at hu
        rw [Nat.add_assoc]
        exact hc _ u hu
      · cases hu
    by_cases hcx : c = x.toNat
    · exfalso
      omega
    · rw [if_neg hcx]
      exact ⟨b, off + x.toNat * sz, by simp [Addr.add], hb, key _ rfl⟩
  · obtain ⟨ad, h, rfl⟩ := hj
    split at h
    · exact ⟨ad, h, rfl⟩
    · cases A with
      | none => cases h
      | some a => simp at h; subst h; exact ⟨a, rfl, by unfold Addr.add; split <;> rfl⟩

/-- 's[:hi]' of a slice that reads as a list -/
theorem sub_hi {P : Program} {t e : TypeId} {sz bytes : Nat} (E : ElemOf P t e sz bytes) (A : Option Addr) (n c : Nat) (k : IntKind) (y : Int) (h0 : 0 ≤ y) (h2 : y ≤ n) (hnc : n ≤ c) :
    ∃ A', (∀ w, (Instr.sliceAt t (.slice A n c) none (some (.int k y)) none).run P w = .ok (.slice A' y.toNat c) w) ∧
      (∀ w B xs, Rd w B A sz n xs → Rd w B A' sz y.toNat (xs.take (y.toNat * sz))) ∧ (∀ j, inB A' j → inB A j) := by
  obtain ⟨ht, ⟨i, z, hi, hz, hsize, hby, hzs⟩, hpos⟩ := E
  have hel : P.elem t = e := by simp [Program.elem, ht]
  refine ⟨if c = 0 then A else A.map (·.add (0 * sz)), fun w => ?_, fun w B xs hr => ?_, fun j hj => ?_⟩
  · rw [run_sliceAt_slice _ _ _ _ _ _ (by rw [hel]; exact ht), run_slice_h _ _ _ _ _ (by rw [hel]; exact ht) _ _ h0 (by omega)]
    simp [sizeOf, typeInfo, hel, hi, hsize, sliced]
  · have hA : (if c = 0 then A else A.map (·.add (0 * sz))) = A := by
      split
      · rfl
      · cases A <;> simp [Addr.add]
    rw [hA]
    exact hr.take (by omega)
  · obtain ⟨ad, h, rfl⟩ := hj
    split at h
    · exact ⟨ad, h, rfl⟩
    · cases A with
      | none => cases h
      | some a => simp at h; subst h; exact ⟨a, rfl, by unfold Addr.add; split <;> rfl⟩
/-- 's[:min(len(s), K)]' -/
theorem sub_min {P : Program} {t e : TypeId} {sz bytes : Nat} (E : ElemOf P t e sz bytes) (A : Option Addr) (n c K : Nat) (hnc : n ≤ c) :
    ∃ A' k, k ≤ K ∧ k ≤ n ∧ (∀ w B xs, Rd w B A sz n xs → Rd w B A' sz k (xs.take (k * sz))) ∧ (∀ j, inB A' j → inB A j) ∧
      (((n : Int) ≤ (K : Int) ∧ k = n ∧ ∀ w, (Instr.sliceAt t (.slice A n c) none (some (.int .i64 (n : Int))) none).run P w = .ok (.slice A' k c) w) ∨
       ((K : Int) < (n : Int) ∧ k = K ∧ ∀ w, (Instr.sliceAt t (.slice A n c) none (some (.int .i64 (K : Int))) none).run P w = .ok (.slice A' k c) w)) := by
  by_cases h : n ≤ K
  · obtain ⟨A', h1, h2, h3⟩ := sub_hi E A n c .i64 (n : Int) (by omega) (by omega) hnc
    rw [Int.toNat_natCast] at h1 h2
    exact ⟨A', n, h, by omega, h2, h3, .inl ⟨by omega, rfl, h1⟩⟩
  · obtain ⟨A', h1, h2, h3⟩ := sub_hi E A n c .i64 (K : Int) (by omega) (by omega) hnc
    rw [Int.toNat_natCast] at h1 h2
    exact ⟨A', K, by omega, by omega, h2, h3, .inr ⟨by omega, rfl, h1⟩⟩
theorem quiet_add {P : Program} {f : FuncId} {args : Array Value} {w : World} {a n : Nat} {v : Value}
    (h : Calls P f args (w.drewN (a + n)) fun e w' => e = .returned v ∧ ∃ m, w' = (w.drewN (a + n)).drewN m) :
    Calls P f args (w.drewN (a + n)) fun e w'' => e = .returned v ∧ ∃ m, w'' = w.drewN (a + m) :=
  h.mono fun _ _ ⟨he, m, hm⟩ => ⟨he, n + m, by rw [hm, World.drewN_drewN, Nat.add_assoc]⟩
end Go.Proofs.Ytaiopdipldaimaa
