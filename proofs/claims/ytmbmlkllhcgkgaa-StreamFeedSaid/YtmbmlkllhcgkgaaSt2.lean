/-
  More on streams, plainly: how many chunks, how long their bodies, how long the buffer.
-/
import Derived.Test.YtmbmlkllhcgkgaaSt
import Derived.Test.YtmbmlkllhcgkgaaMem2
set_option linter.unusedVariables false
set_option linter.unusedSimpArgs false
namespace Go.Proofs.Ytmbmlkllhcgkgaa.Stp
open Vp

theorem feed1_chunks (s : St) (c : UInt8) : (feed1 s c).2.length ≤ 1 := by
  unfold feed1; repeat' (split; · simp)
  simp
theorem feedL_chunks (s : St) (l : List UInt8) : (feedL s l).2.length ≤ l.length := by
  induction l generalizing s with
  | nil => simp [feedL]
  | cons c l ih =>
    have h1 := feed1_chunks s c
    have h2 := ih (feed1 s c).1
    simp only [feedL, List.length_append, List.length_cons]; omega
/-- a broken stream's buffer is empty -/
def Emp (s : St) : Prop := s.broken = true → s.buf = []
theorem emp_feed1 (s : St) (c : UInt8) (h : Emp s) : Emp (feed1 s c).1 := by
  unfold feed1
  by_cases hb : s.broken = true
  · rw [if_pos hb]; exact h
  · rw [if_neg hb]
    have hb' : s.broken = false := by simpa using hb
    repeat' (split; · first | (intro hh; rfl) | (intro hh; simp [hb'] at hh))
    intro hh; rfl
theorem emp_feedL (s : St) (l : List UInt8) (h : Emp s) : Emp (feedL s l).1 := by
  induction l generalizing s with
  | nil => exact h
  | cons c l ih => exact ih _ (emp_feed1 s c h)
theorem buf_le (s : St) (hg : Good s) (he : Emp s) : s.buf.length ≤ 4097 := by
  by_cases hb : s.broken = true
  · rw [he hb]; simp
  · exact inc_lt _ (hg.2.2 (by simpa using hb))
theorem buf_feedL (s : St) (l : List UInt8) (hg : Good s) (he : Emp s) : (feedL s l).1.buf.length ≤ 4097 := buf_le _ (good_feedL s l hg) (emp_feedL s l he)
theorem emp_init : Emp init := fun _ => rfl
theorem body_feed1 (s : St) (c : UInt8) (h : s.buf.length ≤ 4097) : ∀ ch ∈ (feed1 s c).2, ch.body.length ≤ 4098 := by
  unfold feed1
  repeat' (split; · intro ch hc; simp at hc <;> (try (subst hc; simp)))
  intro ch hc
  simp at hc
  subst hc
  simp
  omega
theorem body_feedL (s : St) (l : List UInt8) (hg : Good s) (he : Emp s) : ∀ ch ∈ (feedL s l).2, ch.body.length ≤ 4098 := by
  induction l generalizing s with
  | nil => intro ch hc; simp [feedL] at hc
  | cons c l ih =>
    intro ch hc
    simp only [feedL, List.mem_append] at hc
    rcases hc with hc | hc
    · exact body_feed1 s c (buf_le s hg he) ch hc
    · exact ih _ (good_feed1 s c hg) (emp_feed1 s c he) ch hc
end Go.Proofs.Ytmbmlkllhcgkgaa.Stp
namespace Go.Proofs.Ytmbmlkllhcgkgaa
/-- 's[:min(len(s), K)]': the equation for the least of the two, as the walk has it, and the slice -/
theorem sub_min_k {P : Program} {t e : TypeId} {sz bytes : Nat} (E : ElemOf P t e sz bytes) (A : Option Addr) (n c K : Nat) (hnc : n ≤ c) :
    ∃ A' k, k ≤ K ∧ k ≤ n ∧ (n ≤ K → k = n) ∧ (K < n → k = K) ∧ (∀ w B xs, Rd w B A sz n xs → Rd w B A' sz k (xs.take (k * sz))) ∧ (∀ j, inB A' j → inB A j) ∧
      (if (K : Int) < (n : Int) then (K : Int) else (n : Int)) = (k : Int) ∧
      (∀ w, (Instr.sliceAt t (.slice A n c) none (some (.int .i64 (k : Int))) none).run P w = .ok (.slice A' k c) w) := by
  obtain ⟨A', k, h1, h2, h3, h4, h5⟩ := sub_min E A n c K hnc
  rcases h5 with ⟨g1, g2, g3⟩ | ⟨g1, g2, g3⟩
  · exact ⟨A', k, h1, h2, fun _ => g2, fun h => by omega, h3, h4, by rw [if_neg (by omega), g2], by rw [g2] at g3 ⊢; exact g3⟩
  · exact ⟨A', k, h1, h2, fun h => by omega, fun _ => g2, h3, h4, by rw [if_pos g1, g2], by rw [g2] at g3 ⊢; exact g3⟩
end Go.Proofs.Ytmbmlkllhcgkgaa
