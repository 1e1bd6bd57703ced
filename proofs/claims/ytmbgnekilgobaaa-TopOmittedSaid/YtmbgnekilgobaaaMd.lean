/-
  top.Rest and the reference's Above at lines; the chapter's example. No conditions beyond those of the statement.
-/
import Derived.Test.YtmbgnekilgobaaaMc
import Derived.Test.YtmbgnekilgobaaaArgT
import Derived.Test.YtmbgnekilgobaaaLy
set_option linter.unusedVariables false
set_option linter.unusedSimpArgs false
namespace Go.Proofs.Ytmbgnekilgobaaa
open Go.RowKit
def imax (a b : Int) : Int := if a < b then b else a
theorem imax_yes {a b : Int} (h : a < b) : imax a b = b := if_pos h
theorem imax_no {a b : Int} (h : ¬ a < b) : imax a b = a := if_neg h
/-- the greatest of u and the upper bounds -/
def abv (l : List Ln) (u : Int) : Int := (l.map (·.hi)).foldl imax u
theorem abv_snoc (l : List Ln) (i : Nat) (x : Ln) (u : Int) (h : l[i]? = some x) : abv (l.take (i + 1)) u = imax (abv (l.take i) u) x.hi := by
  rw [List.take_add_one, h, abv, List.map_append, List.foldl_append]
  rfl
theorem elemU : ElemOf Try.prog 84 33 1 8 := ElemOf.mk' (z := .int .u64 0) Try.underlying84 (by kernel_rfl) rfl (by omega)
theorem greatest_any (u : Int) (w : World) (B : Nat) (A : Option Addr) (n c : Nat) (zs : List Int) (hr : Rd w B A 1 n (zs.map (.int .u64))) (hn : n ≤ 1000000) :
    Calls Try.prog 55 #[.int .u64 u, .slice A n c] w fun e w' => e = .returned (.int .u64 (zs.foldl imax u)) ∧ w' = w := by
  have HR := hide hr
  have HL : Hid (zs.length = n) := hide (by simpa using hr.1)
  clear hr
  go_enter Try.func55, Try.ntmps55
  go_upto_region 2 with fail
  go_loopw [0, 9] (fun uv iv wr => ∃ i : Nat, i ≤ n ∧ uv = .int .u64 ((zs.take i).foldl imax u) ∧ iv = .int .i64 (i : Int) ∧ wr = w) (fun _ iv _ => n - (intOf iv).toNat)
  case atStart => exact ⟨0, by omega, rfl, rfl, rfl⟩
  case round =>
    obtain ⟨i, hi, rfl, rfl, rfl⟩ := hrel
    by_cases hlt : i < n
    · have e1 : decide (i < n) = true := by simpa using hlt
      obtain ⟨x, hx⟩ : ∃ x, zs[i]? = some x := ⟨zs[i]'(by rw [HL.out]; exact hlt), List.getElem?_eq_getElem _⟩
      obtain ⟨b, off, rfl, _, hc⟩ := HR.out.2 (by omega)
      have q0 := hc i (.int .u64 x) (by simp [hx])
      have hs : Hid ((zs.take (i + 1)).foldl imax u = imax ((zs.take i).foldl imax u) x) := hide (by rw [List.take_add_one, hx, List.foldl_append]; rfl)
      generalize (zs.take i).foldl imax u = m at *
      clear hc hx
      by_cases hm : m < x
      · rw [imax_yes hm] at hs
        go_wp2_with fail
        go_roundw
        case rel => exact ⟨i + 1, by omega, by rw [hs.out], by go_num, trivial⟩
        case measure => simp [intOf]; omega
      · rw [imax_no hm] at hs
        go_wp2_with fail
        go_roundw
        case rel => exact ⟨i + 1, by omega, by rw [hs.out], by go_num, trivial⟩
        case measure => simp [intOf]; omega
    · have e1 : decide (i < n) = false := by simpa using hlt
      obtain rfl : i = n := by omega
      rw [List.take_of_length_le (by rw [HL.out]; exact Nat.le_refl _)]
      go_wp2_with fail
      go_ret
      exact ⟨rfl, rfl⟩
set_option maxRecDepth 100000 in
theorem above_any (u : Int) (w : World) (B : Nat) (A : Option Addr) (n c : Nat) (l : List Ln) (hr : Rd w B A 3 n (lnCs l)) (hn : n ≤ 1000000) :
    Calls Try.prog 22 #[.slice A n c, .int .u64 u] w fun e w' => e = .returned (.int .u64 (abv l u)) ∧ Keeps (fun _ => False) w w' := by
  have HR := hide hr
  have HL := hide (lnRd_len hr)
  clear hr
  go_enter Try.func22, Try.ntmps22
  go_upto_region 2 with fail
  go_loopw [1, 9] (fun uv iv wr => ∃ i : Nat, i ≤ n ∧ uv = .int .u64 (abv (l.take i) u) ∧ iv = .int .i64 (i : Int) ∧ Hid (Keeps (fun _ => False) w wr)) (fun _ iv _ => n - (intOf iv).toNat)
  case atStart => exact ⟨0, by omega, rfl, rfl, hide (Keeps.refl _ _)⟩
  case round =>
    obtain ⟨i, hi, rfl, rfl, HK⟩ := hrel
    by_cases hlt : i < n
    · have e1 : decide (i < n) = true := by simpa using hlt
      obtain ⟨x, hx⟩ : ∃ x, l[i]? = some x := ⟨l[i]'(by rw [HL.out]; exact hlt), List.getElem?_eq_getElem _⟩
      obtain ⟨b, off, rfl, _, q0, q1, q2⟩ := lnRd_at (HR.out.kept HK.out (fun _ _ h => h)) hx (by omega)
      have hs := hide (abv_snoc l i x u hx)
      generalize abv (l.take i) u = m at *
      clear hx
      by_cases hm : m < x.hi
      · rw [imax_yes hm] at hs
        go_wp2_with fail
        go_roundw
        case rel => exact ⟨i + 1, by omega, by rw [hs.out], by go_num, hide (HK.out.alloc _)⟩
        case measure => simp [intOf]; omega
      · rw [imax_no hm] at hs
        go_wp2_with fail
        go_roundw
        case rel => exact ⟨i + 1, by omega, by rw [hs.out], by go_num, hide (HK.out.alloc _)⟩
        case measure => simp [intOf]; omega
    · have e1 : decide (i < n) = false := by simpa using hlt
      obtain rfl : i = n := by omega
      rw [List.take_of_length_le (by rw [HL.out]; exact Nat.le_refl _)]
      go_wp2_with fail
      go_ret
      exact ⟨rfl, HK.out⟩
set_option maxRecDepth 100000 in
theorem rest_any (u : Int) (w : World) (B : Nat) (A : Option Addr) (n c : Nat) (l : List Ln) (hr : Rd w B A 3 n (lnCs l)) (hn : n ≤ 1000000) :
    Calls Try.prog 21 #[.slice A n c, .int .u64 u] w fun e w' => e = .returned (.int .u64 (abv l u)) ∧ Keeps (fun _ => False) w w' := by
  have HR := hide hr
  have HL := hide (lnRd_len hr)
  clear hr
  go_enter Try.func21, Try.ntmps21
  go_upto_region 3 with fail
  go_loopw [5, 10] (fun ov iv wr => ∃ (i : Nat) (A' : Option Addr) (c' : Nat), i ≤ n ∧ ov = .slice A' i c' ∧ iv = .int .i64 (i : Int) ∧ Hid (Own wr w.heap.size 33 1 A' i c' ((l.take i).map fun x => .int .u64 x.hi)) ∧ Hid (Keeps (fun _ => False) w wr)) (fun _ iv _ => n - (intOf iv).toNat)
  case atStart => exact ⟨0, none, 0, by omega, rfl, rfl, hide (Own.nil _ _ _ _), hide (Keeps.refl _ _)⟩
  case round =>
    obtain ⟨i, A', c', hi, rfl, rfl, HO, HK⟩ := hrel
    obtain ⟨wo, rfl⟩ : ∃ wo : World, wo = wr := ⟨_, rfl⟩
    by_cases hlt : i < n
    · have e1 : decide (i < n) = true := by simpa using hlt
      obtain ⟨x, hx⟩ : ∃ x, l[i]? = some x := ⟨l[i]'(by rw [HL.out]; exact hlt), List.getElem?_eq_getElem _⟩
      obtain ⟨b, off, rfl, _, q0, q1, q2⟩ := lnRd_at (HR.out.kept HK.out (fun _ _ h => h)) hx (by omega)
      have hs : Hid ((l.take (i + 1)).map (fun x : Ln => Value.int .u64 x.hi) = (l.take i).map (fun x => .int .u64 x.hi) ++ [.int .u64 x.hi]) := hide (by rw [List.take_add_one, hx, List.map_append]; rfl)
      clear hx
      have kA : Hid (Keeps (fun _ => False) wo ((wo.alloc (.cells #[.string x.key, .int .u64 x.lo, .int .u64 x.hi] 38)).alloc (.cells #[.int .u64 x.hi] 33))) := hide (((Keeps.refl _ _).alloc _).alloc _)
      go_wp2_with (at_builtin; refine wpList_app _ elemU rfl (.tmp 14) (.tmp 17) rfl w.heap.size _ rfl (HO.out.kept kA.out (fun _ _ h => h)) _ (m := 1) [.int .u64 x.hi] rfl (by exact Blk.rd (xs := [.int .u64 x.hi]) (Blk.new_at _ _ _ _ (by simp)) rfl) (by simp [Value.oneCell']) (by simp only [maxLen]; omega) (by omega) (by have := HK.out.size; have := kA.out.size; omega) ?_; intro A7 c7 w7 o7 k7 hA7; have O7 := hide o7; have K7 := hide ((HK.out.step0 kA.out).step k7 (fun q hq h => by have := HO.out.inB h; omega)); clear o7 k7 hA7)
      go_roundw
      case rel => exact ⟨i + 1, A7, c7, by omega, rfl, by go_num, hide (by rw [hs.out]; exact O7.out), K7⟩
      case measure => simp [intOf]; omega
    · have e1 : decide (i < n) = false := by simpa using hlt
      obtain rfl : i = n := by omega
      have hf : Hid ((l.map (·.hi)).map (Value.int .u64) = (l.take i).map fun x => .int .u64 x.hi) := hide (by rw [List.take_of_length_le (by rw [HL.out]; exact Nat.le_refl _), List.map_map]; rfl)
      go_wp2_with fail
      refine (greatest_any u _ _ _ _ _ (l.map (·.hi)) (by rw [hf.out]; exact HO.out.rd (by omega)) hn).mono ?_
      rintro e w8 ⟨rfl, rfl⟩
      go_wp2_with fail
      go_ret
      exact ⟨rfl, HK.out⟩
end Go.Proofs.Ytmbgnekilgobaaa
