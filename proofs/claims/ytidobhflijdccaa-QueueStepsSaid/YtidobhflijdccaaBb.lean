/-
  law 8's example, and its two arenas. No conditions beyond those of the statement.
-/
import Derived.Test.YtidobhflijdccaaBa
import Derived.Test.YtidobhflijdccaaAw
set_option linter.unusedVariables false
set_option linter.unusedSimpArgs false
namespace Go.Proofs.Ytidobhflijdccaa
open Go.RowKit Cfp
/-- what two gives -/
def Twos (w : World) (B g : Nat) (e : Ending) (w' : World) : Prop :=
  ∃ (a b : Nat) (D : Option Addr) (c q : Nat) (CA : Option Addr) (cap : Nat) (l : List (Int × Int)) (n B0 : Nat), e = .returned (.tuple #[.pointer (some ⟨a, 0, none⟩), .pointer (some ⟨b, 0, none⟩), .bool true]) ∧ w.heap.size ≤ B0 ∧ B0 ≤ w'.heap.size ∧ IsAr w' B0 a (parAr l n CA cap) ∧ l.length = n ∧ n ≤ 4 ∧ classesE l = 0 ∧ (∀ x ∈ l, x.2 ≤ 4 ∧ x.1 ≤ 160) ∧
    Blk w' b 136 #[.slice D n c, .slice none 0 0, .slice none 0 0, .slice (some ⟨q, 0, none⟩) n n, .int .i64 0] ∧ w.heap.size ≤ b ∧ w.heap.size ≤ q ∧ Own w' w.heap.size 37 2 D n c (prs l) ∧ Blk w' q 3 (Array.replicate n (.int .i64 0)) ∧ IsDeck w' B g ∧ Keeps (· = g) w w'
theorem two_any (B g : Nat) (w : World) (h : IsDeck w B g) : Calls Try.prog 28 #[.pointer (some ⟨g, 0, none⟩)] w (Twos w B g) := by
  have H := hide h
  have hgl := h.lt
  clear h
  go_enter Try.func28, Try.ntmps28
  go_wp2_with fail
  refine (classes_any B g _ H.out).mono ?_
  rintro e w1 ⟨D, n, m, l, rfl, hn4, hE, hb, o1, d1, k1⟩
  have O1 := hide o1
  have D1 := hide d1
  have K1 := hide k1
  have hw1 : w.heap.size ≤ w1.heap.size := k1.size
  have hln : Hid (l.length = n) := by have := O1.out.len; rw [prs_len] at this; show _ = _; omega
  have HE := hide hE
  have HB := hide hb
  have R1 := hide (O1.out.rd (by omega))
  clear o1 d1 k1 hE hb
  go_wp2_with fail
  refine (anew_ok l HE.out D n m w1.heap.size w1 R1.out (Nat.le_refl _)).mono ?_
  rintro e w2 ⟨a, CA, cap, rfl, h2, k2⟩
  have H2 := hide h2
  have K2 := hide k2
  have hw2 : w1.heap.size ≤ w2.heap.size := k2.size
  have R2 := hide (R1.out.kept k2 (fun _ _ h => h))
  clear h2 k2
  go_wp2_with fail
  refine (rnew_ok l HE.out D n m w1.heap.size w2 R2.out hw2).mono ?_
  rintro e w3 ⟨b, D3, c3, q3, rfl, b3, hb3, hq3, o3, n3, k3⟩
  have B3 := hide b3
  have O3 := hide o3
  have N3 := hide n3
  have K3 := hide k3
  clear b3 o3 n3 k3
  go_wp2_with fail
  refine bodyPost_ret (v := .tuple #[.pointer (some ⟨a, 0, none⟩), .pointer (some ⟨b, 0, none⟩), .bool true]) (by simp [results, Try.results28, go_sem]) rfl ?_
  have hk : Keeps (fun _ => False) w1 w3 := K2.out.trans K3.out
  exact ⟨a, b, D3, c3, q3, CA, cap, l, n, w1.heap.size, rfl, hw1, hk.size, H2.out.quiet K3.out, hln.out, hn4, HE.out, HB.out, B3.out, by omega, by omega, O3.out.base_le (by omega), N3.out, (D1.out.kept hk (fun h => h) (fun _ _ h => h)), K1.out.step0 hk⟩
end Go.Proofs.Ytidobhflijdccaa
