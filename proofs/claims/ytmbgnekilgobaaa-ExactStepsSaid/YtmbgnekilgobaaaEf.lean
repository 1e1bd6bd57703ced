/-
  copy from a slice that has more than the place takes; slices.overlaps of two blocks. No conditions beyond those of the statement.
-/
import Derived.Test.YtmbgnekilgobaaaEe
set_option linter.unusedVariables false
set_option linter.unusedSimpArgs false
namespace Go.Proofs.Ytmbgnekilgobaaa
open Go.RowKit Go.ChangeShapes Go.WideShapes
section
variable {P : Program}
theorem run_copyM {t e : TypeId} {sz bytes : Nat} (E : ElemOf P t e sz bytes) (ty : TypeId) (w : World) (base g n c : Nat) (xs : List Value) (hown : Own w base e sz (some ⟨g, 0, none⟩) n c xs) (o dLen dCap : Nat)
    (B : Nat) (A2 : Option Addr) (m c2 : Nat) (news : List Value) (hr : Rd w B A2 sz m news) (h1 : ∀ u ∈ news.take (dLen * sz), u.oneCell' = true) (hmd : dLen ≤ m) (hd0 : 0 < dLen) (hon : o + dLen ≤ n) :
    ∃ w', (Builtin.copy_ #[t, t] ty #[.slice (some ⟨g, o * sz, none⟩) dLen dCap, .slice A2 m c2]).run P w = .ok (.int .i64 (dLen : Int)) w' ∧ Own w' base e sz (some ⟨g, 0, none⟩) n c (xs.take (o * sz) ++ news.take (dLen * sz) ++ xs.drop ((o + dLen) * sz)) ∧ Keeps (· = g) w w' := by
  obtain ⟨ht, ⟨i, z, hi, hz, hsize, hby, hzs⟩, hpos⟩ := E
  have hxl := hown.len
  have hnl : (news.take (dLen * sz)).length = dLen * sz := by rw [List.length_take, hr.1]; exact Nat.min_eq_left (Nat.mul_le_mul_right _ hmd)
  have hmin : Nat.min m dLen = dLen := Nat.min_eq_right hmd
  have hle : (o + dLen) * sz ≤ n * sz := Nat.mul_le_mul_right _ hon
  rw [Nat.add_mul] at hle
  obtain ⟨b, off, rfl, hb, hc⟩ := hr.2 (by omega)
  have hfc : (Builtin.firstCells sz dLen (.slice (some ⟨b, off, none⟩) m c2)).run P w = .ok (news.take (dLen * sz)).toArray w :=
    run_firstCells_some (P := P) w sz dLen ⟨b, off, none⟩ m c2 (news.take (dLen * sz)) hnl (fun j u hu => by
      rw [add_plain]
      rw [List.getElem?_take] at hu
      split at hu
      · exact hc j u hu
      · cases hu)
  have h1' := h1
  clear h1
  generalize news.take (dLen * sz) = ns at *
  have hlv := hown.2
  rcases hlv with ⟨hv, _⟩ | ⟨g', cap, cur, hv, hbg, hg, hnc, hcm, hcs, htake⟩
  · cases hv
  · injection hv with h3 h4 h5
    injection h3 with h3
    injection h3 with h3
    subst h3 h5
    have hcap : n * sz ≤ c * sz := Nat.mul_le_mul_right _ hnc
    have hst := run_storeCells_at P g (o * sz) e ns 0 cur w hg (by rw [hcs, hnl]; omega) h1'
    simp only [Nat.add_zero] at hst
    refine ⟨w.setRow g (cur.toList.take (o * sz) ++ ns ++ cur.toList.drop (o * sz + ns.length)).toArray, ?_, ⟨?_, .inr ⟨g, c, _, rfl, hbg, setRow_heap w g cur _ e _ hg, hnc, hcm, ?_, ?_⟩⟩, ⟨rfl, rfl, rfl, by simp [World.setRow], fun k _ hk => setRow_other w g k _ (fun e => hk e)⟩⟩
    · simp [Builtin.copy_, run_underlying ht, Builtin.lenOf, sizeOf, typeInfo, hi, hsize, hmin, hfc, hst, goInt]
    · simp only [List.length_append, List.length_take, List.length_drop, hxl, hnl]
      rw [Nat.add_mul]
      omega
    · simp only [List.size_toArray, List.length_append, List.length_take, List.length_drop, Array.length_toList, hcs, hnl]
      omega
    · obtain ⟨rest, hrest⟩ : ∃ rest, cur.toList = xs ++ rest := ⟨cur.toList.drop (n * sz), by rw [← htake, List.take_append_drop]⟩
      have e1 : (xs ++ rest).take (o * sz) = xs.take (o * sz) := List.take_append_of_le_length (by rw [hxl]; omega)
      have e2 : (xs ++ rest).drop (o * sz + ns.length) = xs.drop ((o + dLen) * sz) ++ rest := by
        rw [List.drop_append_of_le_length (by rw [hxl, hnl]; omega), hnl, Nat.add_mul]
      rw [hrest, e1, e2, List.toList_toArray, ← List.append_assoc]
      exact List.take_left' (by simp only [List.length_append, List.length_take, List.length_drop, hxl, hnl]; rw [Nat.add_mul]; omega)
theorem step_copyM {ops : Array Oper} {o : Oper} {a : Act} {w : World} {K : Act → World → Prop} {Q : Exit → Act → World → Prop} {F : Prop} {t e : TypeId} {sz bytes : Nat} (E : ElemOf P t e sz bytes) (hgd : o.guard = none) (d s : Operand)
    (ho : o.op = .call { callee := .builtin .copy, args := #[d, s], argTypes := #[t, t] }) (base g n c : Nat) (xs : List Value) (hown : Own w base e sz (some ⟨g, 0, none⟩) n c xs) (of_ dLen dCap : Nat) (hd : a.eval d = .slice (some ⟨g, of_ * sz, none⟩) dLen dCap)
    (B : Nat) {A2 : Option Addr} {m c2 : Nat} (news : List Value) (hs : a.eval s = .slice A2 m c2) (hr : Rd w B A2 sz m news) (h1 : ∀ u ∈ news.take (dLen * sz), u.oneCell' = true) (hmd : dLen ≤ m) (hd0 : 0 < dLen) (hon : of_ + dLen ≤ n)
    (h : ∀ w', Own w' base e sz (some ⟨g, 0, none⟩) n c (xs.take (of_ * sz) ++ news.take (dLen * sz) ++ xs.drop ((of_ + dLen) * sz)) → Keeps (· = g) w w' → K (a.put o.dst (.int .i64 (dLen : Int))) w') :
    if Region.wanted o (yielded ops a.tmps) = true then Oper.wp P o a w K Q else F := by
  have hw : Region.wanted o (yielded ops a.tmps) = true := by simp [Region.wanted, hgd]
  rw [if_pos hw]
  obtain ⟨w', hrun, h2, h3⟩ := run_copyM (P := P) E o.type w base g n c xs hown of_ dLen dCap B A2 m c2 news hr h1 hmd hd0 hon
  unfold Oper.wp execOp
  simp only [ho, resolve, invoke, builtin, Sem.run_bind, Sem.run_pure, Result.andThen_ok, List.map_toArray, List.map_cons, List.map_nil, hd, hs, hrun]
  exact h w' h2 h3
end
/-- slices.overlaps at two blocks -/
theorem overlaps_no (w : World) (a b oa ob la ca lb cb : Nat) (cA cB : Array Value) (tA tB : TypeId) (hA : Blk w a tA cA) (hB : Blk w b tB cB) (hne : a ≠ b) (hk : cB.size ≠ 0) :
    (callFunc 81 #[.slice (some ⟨a, oa, none⟩) la ca, .slice (some ⟨b, ob, none⟩) lb cb]).run Try.prog w = .ok (.value (.bool false)) w := by
  have hsz : ∀ w, (Go.sizeOf 53).run Try.prog w = .ok 3 w := fun w => by kernel_rfl
  rw [run_callFunc_extern Try.func81 (by kernel_rfl) (by kernel_rfl) (by kernel_rfl) (e := Extern.SlicesOverlaps.overlaps #[72, 72] #[4]) (by kernel_rfl),
    Lib.run_overlaps_apart w 72 4 53 Try.underlying72 3 hsz ⟨a, oa, none⟩ ⟨b, ob, none⟩ la ca lb cb hne tA tB cA.size cB.size (by simp [World.shape?, show w.heap[a]? = _ from hA]) (by simp [World.shape?, show w.heap[b]? = _ from hB]) hk (hA.frozen oa) (hA.frozen cA.size)]
  rfl
end Go.Proofs.Ytmbgnekilgobaaa
