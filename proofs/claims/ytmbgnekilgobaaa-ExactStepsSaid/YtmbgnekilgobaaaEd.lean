/-
  slices.Insert of one entry: what it wants of memory, and the road at the end. No conditions beyond those of the statement.
-/
import Derived.Test.YtmbgnekilgobaaaEc
import Derived.Test.YtmbgnekilgobaaaCo
import Derived.Lib.AppendZerosOnto
import Derived.Lib.Overlaps
set_option linter.unusedVariables false
set_option linter.unusedSimpArgs false
namespace Go.Proofs.Ytmbgnekilgobaaa
open Go.RowKit Go.ChangeShapes Go.WideShapes
/-- 's[:y]' up to the capacity -/
theorem sub_cap {P : Program} {t e : TypeId} {sz bytes : Nat} (E : ElemOf P t e sz bytes) (g n c : Nat) (k : IntKind) (y : Int) (h0 : 0 ≤ y) (h2 : y ≤ c) :
    ∀ w, (Instr.sliceAt t (.slice (some ⟨g, 0, none⟩) n c) none (some (.int k y)) none).run P w = .ok (.slice (some ⟨g, 0, none⟩) y.toNat c) w := by
  obtain ⟨ht, ⟨i, z, hi, hz, hsize, hby, hzs⟩, hpos⟩ := E
  have hel : P.elem t = e := by simp [Program.elem, ht]
  intro w
  rw [run_sliceAt_slice _ _ _ _ _ _ (by rw [hel]; exact ht), run_slice_h _ _ _ _ _ (by rw [hel]; exact ht) _ _ h0 (by omega)]
  by_cases hc : c = 0
  · simp [sizeOf, typeInfo, hel, hi, hsize, sliced, hc]
  · simp [sizeOf, typeInfo, hel, hi, hsize, sliced, hc, Addr.add]
/-- 's[x:]' of a slice at the head of its block -/
theorem sub_at {P : Program} {t e : TypeId} {sz bytes : Nat} (E : ElemOf P t e sz bytes) (g n c : Nat) (k : IntKind) (x : Int) (h0 : 0 ≤ x) (h1 : x ≤ n) (hnc : n ≤ c) (hxc : x < c) :
    ∀ w, (Instr.sliceAt t (.slice (some ⟨g, 0, none⟩) n c) (some (.int k x)) none none).run P w = .ok (.slice (some ⟨g, x.toNat * sz, none⟩) (n - x.toNat) (c - x.toNat)) w := by
  obtain ⟨ht, ⟨i, z, hi, hz, hsize, hby, hzs⟩, hpos⟩ := E
  have hel : P.elem t = e := by simp [Program.elem, ht]
  intro w
  have hne : ¬ c = x.toNat := by omega
  rw [run_sliceAt_slice _ _ _ _ _ _ (by rw [hel]; exact ht), run_slice_l _ _ _ _ _ (by rw [hel]; exact ht) _ _ h0 h1]
  simp [sizeOf, typeInfo, hel, hi, hsize, sliced, hne, Addr.add]
  intro h; omega
/-- a slice with one more of its spare elements -/
theorem Own.spare {w : World} {B g n c sz : Nat} {e : TypeId} {xs : List Value} (h : Own w B e sz (some ⟨g, 0, none⟩) n c xs) (hc : n + 1 ≤ c) : ∃ sp, sp.length = sz ∧ Own w B e sz (some ⟨g, 0, none⟩) (n + 1) c (xs ++ sp) := by
  have hxl := Own.len h
  rcases h.2 with ⟨hv, _⟩ | ⟨g', cap, cur, hv, hbg, hg, hnc, hcm, hcs, htake⟩
  · cases hv
  · injection hv with h1 h2 h3
    injection h1 with h1
    injection h1 with h1
    subst h1 h3
    have hcl : (n + 1) * sz ≤ c * sz := Nat.mul_le_mul_right _ hc
    rw [Nat.add_mul, Nat.one_mul] at hcl
    refine ⟨(cur.toList.drop (n * sz)).take sz, by simp; omega, ?_, .inr ⟨g, c, cur, rfl, hbg, hg, hc, hcm, hcs, ?_⟩⟩
    · rw [List.length_append, hxl, Nat.add_mul]
      simp; omega
    · rw [Nat.add_mul, Nat.one_mul, List.take_add, htake]
/-- what Insert leaves -/
def InsPost (w : World) (B : Nat) (A : Option Addr) (n : Nat) (l : List Ln) (i : Nat) (x : Ln) (e : Ending) (w' : World) : Prop :=
  ∃ A' c', e = .returned (.slice A' (n + 1) c') ∧ Ens w' B A' (n + 1) c' (l.take i ++ x :: l.drop i) ∧ Keeps (inB A) w w' ∧ (∀ k, inB A' k → inB A k ∨ w.heap.size ≤ k)
set_option maxRecDepth 100000 in
set_option maxHeartbeats 1000000 in
theorem ins_end (w : World) (B : Nat) (A : Option Addr) (n c : Nat) (l : List Ln) (x : Ln) (gv : Nat) (ho : Ens w B A n c l) (hB : B ≤ w.heap.size) (hv : Blk w gv 53 (lnC x).toArray) (hn : n ≤ 100000) :
    Calls Try.prog 64 #[.slice A n c, .int .i64 n, .slice (some ⟨gv, 0, none⟩) 1 1] w (InsPost w B A n l n x) := by
  have hnc := Own.le ho
  have HO := hide ho
  have hl := Lns.len_en ho
  have HE : Hid (l.take n ++ x :: l.drop n = l ++ [x]) := hide (by rw [← hl, List.take_length, List.drop_length])
  have HV := hide (show Rd w w.heap.size (some ⟨gv, 0, none⟩) 3 1 (lnC x) from Blk.rd hv rfl)
  obtain ⟨Db, hsb, hrb, hib⟩ := sub_lo elemEn A n c .i64 (n : Int) (by omega) (by omega) hnc
  clear ho hv hrb hib hl
  go_enter Try.func64, Try.ntmps64
  go_wp2_with (at_builtin; refine wpList_app _ elemEn rfl (.tmp 23) (.tmp 24) rfl B _ rfl HO.out _ (m := 1) (lnC x) rfl HV.out (lnC_one x) (by simp only [maxLen]; omega) (by omega) hB ?_; intro A7 c7 w7 o7 k7 hA7; have O7 := hide o7; have K7 := hide k7; have HA7 := hide hA7; clear o7 k7 hA7)
  go_ret
  refine ⟨A7, c7, rfl, ?_, K7.out, HA7.out⟩
  rw [HE.out]
  have := O7.out
  rw [← lnCs1, ← lnCs_app] at this
  exact this
end Go.Proofs.Ytmbgnekilgobaaa
