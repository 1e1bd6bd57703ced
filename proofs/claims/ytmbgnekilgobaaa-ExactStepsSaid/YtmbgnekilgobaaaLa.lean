/-
  Lines: their order, and in memory.
-/
import Derived.Test.YtmbgnekilgobaaaFl
import Derived.Test.YtmbgnekilgobaaaSo
import Derived.Test.YtmbgnekilgobaaaMem3
import Derived.Lib.Bytealg
import Derived.Deep.CutRange
import Derived.Deep.RegionHeld3
set_option linter.unusedVariables false
set_option linter.unusedSimpArgs false
namespace Go.Proofs.Ytmbgnekilgobaaa
open Go.RowKit
abbrev bl (a b : List UInt8) : Bool := Op.bytesLess a b
theorem bl_irr : ∀ a : List UInt8, Op.bytesLess a a = false
  | [] => rfl
  | x :: a => by simp [Op.bytesLess, bl_irr a, UInt8.lt_irrefl]
theorem bl_tri : ∀ a b : List UInt8, Op.bytesLess a b = true ∨ a = b ∨ Op.bytesLess b a = true
  | [], [] => .inr (.inl rfl)
  | [], y :: b => .inl rfl
  | x :: a, [] => .inr (.inr rfl)
  | x :: a, y :: b => by
    rcases bl_tri a b with h | h | h
    · by_cases h1 : x < y
      · exact .inl (by simp [Op.bytesLess, h1])
      · by_cases h2 : y < x
        · exact .inr (.inr (by simp [Op.bytesLess, h2]))
        · have : x = y := UInt8.le_antisymm (UInt8.not_lt.1 h2) (UInt8.not_lt.1 h1)
          subst this
          exact .inl (by simp [Op.bytesLess, h])
    · subst h
      by_cases h1 : x < y
      · exact .inl (by simp [Op.bytesLess, h1])
      · by_cases h2 : y < x
        · exact .inr (.inr (by simp [Op.bytesLess, h2]))
        · have : x = y := UInt8.le_antisymm (UInt8.not_lt.1 h2) (UInt8.not_lt.1 h1)
          subst this
          exact .inr (.inl rfl)
    · by_cases h1 : x < y
      · exact .inl (by simp [Op.bytesLess, h1])
      · by_cases h2 : y < x
        · exact .inr (.inr (by simp [Op.bytesLess, h2]))
        · have : x = y := UInt8.le_antisymm (UInt8.not_lt.1 h2) (UInt8.not_lt.1 h1)
          subst this
          exact .inr (.inr (by simp [Op.bytesLess, h]))
theorem bl_tr : ∀ a b c : List UInt8, Op.bytesLess a b = true → Op.bytesLess b c = true → Op.bytesLess a c = true
  | [], _, [], _, h => by
    rename_i b _
    cases b <;> simp [Op.bytesLess] at h
  | [], _, z :: c, _, _ => rfl
  | x :: a, [], _, h, _ => by simp [Op.bytesLess] at h
  | x :: a, y :: b, [], _, h => by simp [Op.bytesLess] at h
  | x :: a, y :: b, z :: c, h1, h2 => by
    simp only [Op.bytesLess, Bool.or_eq_true, Bool.and_eq_true, decide_eq_true_eq, beq_iff_eq] at h1 h2 ⊢
    rcases h1 with h1 | ⟨rfl, h1⟩
    · rcases h2 with h2 | ⟨rfl, h2⟩
      · exact .inl (UInt8.lt_trans h1 h2)
      · exact .inl h1
    · rcases h2 with h2 | ⟨rfl, h2⟩
      · exact .inl h2
      · exact .inr ⟨rfl, bl_tr a b c h1 h2⟩
theorem cmpB : ∀ a b : List UInt8, Lib.compareBytes a b = if Op.bytesLess a b = true then -1 else if Op.bytesLess b a = true then 1 else 0
  | [], [] => rfl
  | [], _ :: _ => rfl
  | _ :: _, [] => rfl
  | x :: a, y :: b => by
    have ih := cmpB a b
    simp only [Lib.compareBytes, Op.bytesLess]
    by_cases h1 : x < y
    · simp [h1]
    · by_cases h2 : y < x
      · have h3 : x ≠ y := fun e => by subst e; exact absurd h2 (UInt8.lt_irrefl x)
        simp [h1, h2, h3]
      · have : x = y := UInt8.le_antisymm (UInt8.not_lt.1 h2) (UInt8.not_lt.1 h1)
        subst this
        rw [if_neg h1, if_neg h1, ih]
        simp [UInt8.lt_irrefl]
/-- a line -/
structure Ln where
  key : ByteArray
  lo : Int
  hi : Int
def lnC (x : Ln) : List Value := [.string x.key, .int .u64 x.lo, .int .u64 x.hi]
def lnCs (l : List Ln) : List Value := l.flatMap lnC
theorem lnCs_len (l : List Ln) : (lnCs l).length = l.length * 3 := Fl.len lnC 3 (fun _ => rfl) l
theorem lnCs_app (l m : List Ln) : lnCs (l ++ m) = lnCs l ++ lnCs m := List.flatMap_append
theorem lnCs_at {l : List Ln} {i : Nat} {x : Ln} (h : l[i]? = some x) : (lnCs l)[i * 3]? = some (.string x.key) ∧ (lnCs l)[i * 3 + 1]? = some (.int .u64 x.lo) ∧ (lnCs l)[i * 3 + 2]? = some (.int .u64 x.hi) :=
  ⟨Fl.get lnC 3 (fun _ => rfl) l i 0 x h (by omega), Fl.get lnC 3 (fun _ => rfl) l i 1 x h (by omega), Fl.get lnC 3 (fun _ => rfl) l i 2 x h (by omega)⟩
theorem lnCs_one (l : List Ln) : ∀ u ∈ lnCs l, u.oneCell' = true := by
  intro u hu
  unfold lnCs at hu
  rw [List.mem_flatMap] at hu
  obtain ⟨c, _, hu⟩ := hu
  simp [lnC] at hu
  rcases hu with rfl | rfl | rfl <;> rfl
theorem lnCs_set (l : List Ln) (i : Nat) (y : Ln) (hi : i < l.length) : (((lnCs l).set (i * 3) (.string y.key)).set (i * 3 + 1) (.int .u64 y.lo)).set (i * 3 + 2) (.int .u64 y.hi) = lnCs (l.set i y) :=
  Fl.sets_flat lnC 3 (fun _ => rfl) (by omega) l i y hi
theorem elemLn : ElemOf Try.prog 22 38 3 32 := ElemOf.mk' (z := .agg #[.string ⟨#[]⟩, .int .u64 0, .int .u64 0]) Try.underlying22 (by kernel_rfl) rfl (by omega)
/-- one line comes before another -/
def lnLt (a b : Ln) : Bool := decide (b.hi < a.hi) || (a.hi == b.hi && Op.bytesLess a.key.toList b.key.toList)
theorem lnLt_wk : Srt.Wk lnLt := by
  refine ⟨fun x => ?_, fun x y z h1 h2 => ?_, fun x y z h1 h2 => ?_⟩
  · simp [lnLt, bl_irr]
  · simp only [lnLt, Bool.or_eq_true, Bool.and_eq_true, decide_eq_true_eq, beq_iff_eq] at *
    rcases h1 with h1 | ⟨e1, h1⟩ <;> rcases h2 with h2 | ⟨e2, h2⟩
    · exact .inl (by omega)
    · exact .inl (by omega)
    · exact .inl (by omega)
    · exact .inr ⟨by omega, bl_tr _ _ _ h1 h2⟩
  · have hn : ∀ {a b : Ln}, lnLt a b = false ↔ a.hi < b.hi ∨ (a.hi = b.hi ∧ Op.bytesLess a.key.toList b.key.toList = false) := by
      intro a b
      simp only [lnLt, Bool.or_eq_false_iff, Bool.and_eq_false_iff, decide_eq_false_iff_not, beq_eq_false_iff_ne]
      constructor
      · rintro ⟨h1, h2 | h2⟩
        · exact .inl (by omega)
        · by_cases e : a.hi = b.hi
          · exact .inr ⟨e, h2⟩
          · exact .inl (by omega)
      · rintro (h | ⟨h1, h2⟩)
        · exact ⟨by omega, .inl (by omega)⟩
        · exact ⟨by omega, .inr h2⟩
    rw [hn] at h1 h2 ⊢
    rcases h1 with h1 | ⟨e1, h1⟩ <;> rcases h2 with h2 | ⟨e2, h2⟩
    · exact .inl (by omega)
    · exact .inl (by omega)
    · exact .inl (by omega)
    · refine .inr ⟨by omega, ?_⟩
      rcases e : Op.bytesLess x.key.toList z.key.toList with _ | _
      · rfl
      · exfalso
        rcases bl_tri x.key.toList y.key.toList with h | h | h
        · rw [h] at h1; cases h1
        · rw [h, h2] at e; cases e
        · have := bl_tr _ _ _ h e
          rw [this] at h2; cases h2
/-- how two lines compare -/
def lnCmp (a b : Ln) : Int := if b.hi < a.hi then -1 else if a.hi < b.hi then 1 else Lib.compareBytes a.key.data.toList b.key.data.toList
theorem lnCmp_lt (a b : Ln) : decide (lnCmp a b < 0) = lnLt a b := by
  unfold lnCmp lnLt
  by_cases h1 : b.hi < a.hi
  · simp [h1]
  · by_cases h2 : a.hi < b.hi
    · have : a.hi ≠ b.hi := by omega
      simp [h1, h2, this]
    · have : a.hi = b.hi := by omega
      rw [if_neg h1, if_neg h2, cmpB, ByteArray.toList_eq, ByteArray.toList_eq]
      simp only [this, beq_self_eq_true, Bool.true_and, Int.lt_irrefl, decide_false, Bool.false_or]
      rcases e : Op.bytesLess a.key.data.toList b.key.data.toList with _ | _
      · rcases e2 : Op.bytesLess b.key.data.toList a.key.data.toList with _ | _ <;> simp
      · simp
theorem cmpstr (a b : ByteArray) (w : World) : Calls Try.prog 75 #[.string a, .string b] w fun e w' => e = .returned (.int .i64 (Lib.compareBytes a.data.toList b.data.toList)) ∧ w' = w := by
  go_enter Try.func75, Try.ntmps75
  go_wp2
  rw [run_callFunc_extern Try.func85 (by kernel_rfl) (by kernel_rfl) (by kernel_rfl) (e := Extern.BytealgCompare.compare) (by kernel_rfl), Lib.run_compareString]
  simp only [Result.andThen]
  rw [Oper.upon_value]
  go_wp2
  go_ret
  exact ⟨rfl, rfl⟩
theorem compare_any (a b : ByteArray) (w : World) : Calls Try.prog 59 #[.string a, .string b] w fun e w' => e = .returned (.int .i64 (Lib.compareBytes a.data.toList b.data.toList)) ∧ w' = w := by
  go_enter Try.func59, Try.ntmps59
  go_wp2_with fail
  refine (cmpstr _ _ _).mono ?_
  rintro e w1 ⟨rfl, rfl⟩
  go_wp2_with fail
  go_ret
  exact ⟨rfl, rfl⟩
theorem two_blk (w : World) (a b : Ln) (t : TypeId) : ∃ w2, w2 = (w.alloc (.cells (lnC a).toArray t)).alloc (.cells (lnC b).toArray t) ∧ Keeps (fun _ => False) w w2 ∧ Blk w2 w.heap.size t (lnC a).toArray ∧ Blk w2 (w.heap.size + 1) t (lnC b).toArray :=
  ⟨_, rfl, ((Keeps.refl _ _).alloc _).alloc _, (Blk.new _ _ _).alloc _, Blk.new_at _ _ _ _ (by simp)⟩
theorem cmp_any (a b : Ln) (w : World) : Calls Try.prog 58 #[.agg (lnC a).toArray, .agg (lnC b).toArray] w fun e w' => e = .returned (.int .i64 (lnCmp a b)) ∧ Keeps (fun _ => False) w w' := by
  obtain ⟨w2, hw2, k2, b1, b2⟩ := two_blk w a b 38
  have c2 := b1.cell 2
  have c0 := b1.cell 0
  have d2 := b2.cell 2
  have d0 := b2.cell 0
  have K2 := hide k2
  have HW2 := hide hw2
  clear k2 b1 b2 hw2
  by_cases h1 : b.hi < a.hi
  · have e1 : decide (b.hi < a.hi) = true := by simpa using h1
    have hv : Hid (lnCmp a b = -1) := hide (by simp [lnCmp, h1])
    unfold lnC at *
    clear h1
    go_enter Try.func58, Try.ntmps58
    go_upto_region 1 with fail
    rw [← HW2.out]
    generalize w.heap.size = X at *
    go_wp2_with fail
    go_ret
    exact ⟨ret_int (by rw [hv.out]), K2.out⟩
  · have e1 : decide (b.hi < a.hi) = false := by simpa using h1
    by_cases h2 : a.hi < b.hi
    · have e2 : decide (a.hi < b.hi) = true := by simpa using h2
      have hv : Hid (lnCmp a b = 1) := hide (by simp [lnCmp, h1, h2])
      unfold lnC at *
      clear h1 h2
      go_enter Try.func58, Try.ntmps58
      go_upto_region 1 with fail
      rw [← HW2.out]
      generalize w.heap.size = X at *
      go_wp2_with fail
      go_ret
      exact ⟨ret_int (by rw [hv.out]), K2.out⟩
    · have e2 : decide (a.hi < b.hi) = false := by simpa using h2
      have hv : Hid (lnCmp a b = Lib.compareBytes a.key.data.toList b.key.data.toList) := hide (by simp [lnCmp, h1, h2])
      unfold lnC at *
      clear h1 h2
      go_enter Try.func58, Try.ntmps58
      go_upto_region 1 with fail
      rw [← HW2.out]
      generalize w.heap.size = X at *
      go_wp2_with fail
      refine (compare_any _ _ _).mono ?_
      rintro e w3 ⟨rfl, rfl⟩
      go_wp2_with fail
      go_ret
      exact ⟨ret_int (by rw [hv.out]), K2.out⟩
end Go.Proofs.Ytmbgnekilgobaaa
