/-
  arena.New. No conditions beyond those of the statement.
-/
import Derived.Test.YtidobhflijdccaaAx
import Derived.Lib.Hide
import Derived.Deep.RegionLaw
set_option linter.unusedVariables false
set_option linter.unusedSimpArgs false
namespace Go.Proofs.Ytidobhflijdccaa
open Go.RowKit Cfp

def mkC (c : Int × Int) : Cls := ⟨c.1, c.2, none, 0, [], 0⟩
/-- an arena whose first i classes are made -/
def parAr (l : List (Int × Int)) (i : Nat) (CA : Option Addr) (cap : Nat) : Ar := ⟨CA, cap, (l.take i).map mkC, List.replicate i (-1) ++ List.replicate (8 - i) 0, 0⟩
theorem elemCls : ElemOf Try.prog 119 125 4 48 := ElemOf.mk' (z := .agg #[.int .i64 0, .int .i64 0, .slice none 0 0, .int .i64 0]) Try.underlying119 (by kernel_rfl) rfl (by omega)
theorem parAr_new (w : World) (B : Nat) (l : List (Int × Int)) (hB : B ≤ w.heap.size) : IsAr (w.alloc (.cells (arC (parAr l 0 none 0)).toArray 122)) B w.heap.size (parAr l 0 none 0) :=
  ⟨hB, Blk.new w _ _, Own.nil _ _ _ _, fun i c _ h => by simp [parAr] at h, fun i c _ h => by simp [parAr] at h, fun i j c d _ _ _ h => by simp [parAr] at h, by simp [parAr]⟩
theorem free_step (i : Nat) (hi : i < 8) : (List.replicate i (-1 : Int) ++ List.replicate (8 - i) 0).set i (-1) = List.replicate (i + 1) (-1) ++ List.replicate (8 - (i + 1)) 0 := by
  rw [List.set_append_right _ _ (by simp)]
  simp only [List.length_replicate, Nat.sub_self]
  rw [show 8 - i = (8 - (i + 1)) + 1 from by omega, List.replicate_succ, List.set_cons_zero, List.replicate_succ', List.append_assoc]
  rfl

theorem arC_cell (l : List (Int × Int)) (i : Nat) (hi : i < 8) (CA : Option Addr) (cap : Nat) (v : Value) : ((arC (parAr l i CA cap)).set 0 v)[1 + i]? = some (.int .i64 0) := by
  unfold arC parAr
  dsimp only
  rw [List.set_cons_zero, Nat.add_comm 1 i, List.getElem?_cons_succ, List.getElem?_append_left (by simp; omega), List.getElem?_map, List.getElem?_append_right (by simp)]
  simp [List.getElem?_replicate]
  omega
theorem arC_step (l : List (Int × Int)) (i : Nat) (hi : i < 8) (hl : i < l.length) (CA CA' : Option Addr) (cap cap' : Nat) : arC (parAr l (i + 1) CA' cap') = ((arC (parAr l i CA cap)).set 0 (.slice CA' (i + 1) cap')).set (1 + i) (.int .i64 (-1)) := by
  unfold arC parAr
  dsimp only
  rw [List.set_cons_zero, Nat.add_comm 1 i, List.set_cons_succ, List.set_append_left _ _ (by simp; omega), ← List.map_set, free_step i hi]
  simp
  omega
theorem par_is {w : World} {B a n : Nat} {l : List (Int × Int)} {CA : Option Addr} {cap : Nat} (hB : B ≤ a) (hn : n ≤ l.length) (hn8 : n ≤ 8) (hb : Blk w a 122 (arC (parAr l n CA cap)).toArray) (ho : Own w B 125 4 CA n cap (clsCs ((l.take n).map mkC))) : IsAr w B a (parAr l n CA cap) := by
  have hcl : (parAr l n CA cap).cls.length = n := by simp [parAr]; omega
  have hm : ∀ (i : Nat) (c : Cls), (parAr l n CA cap).cls[i]? = some c → c.SA = none ∧ c.sc = 0 ∧ c.slots = [] := fun i c h => by
    have := List.mem_of_getElem? h
    simp only [parAr, List.mem_map] at this
    obtain ⟨x, _, rfl⟩ := this
    exact ⟨rfl, rfl, rfl⟩
  refine ⟨hB, hb, by rw [hcl]; exact ho, fun i c _ h => ?_, fun i c _ h j x hx => ?_, fun i j c d _ _ _ h h2 b hb => ?_, by simp [parAr]; omega⟩
  · obtain ⟨h1, h2, h3⟩ := hm i c h
    rw [h1, h2, h3]
    exact Own.nil _ _ _ _
  · obtain ⟨h1, h2, h3⟩ := hm i c h
    rw [h3] at hx
    simp at hx
  · obtain ⟨h1, h3⟩ := hm i c h
    rw [h1] at hb
    exact absurd hb (inB_none b)

set_option maxRecDepth 100000 in
set_option maxHeartbeats 2000000 in
theorem anew_ok (l : List (Int × Int)) (hE : classesE l = 0) (C : Option Addr) (n k B : Nat) (w : World) (hr : Rd w B C 2 n (prs l)) (hB : B ≤ w.heap.size) :
    Calls Try.prog 19 #[.slice C n k] w fun e w' => ∃ a CA cap, e = .returned (.tuple #[.pointer (some ⟨a, 0, none⟩), .int .i64 0]) ∧ IsAr w' w.heap.size a (parAr l n CA cap) ∧ Keeps (fun _ => False) w w' := by
  have hlen : l.length = n := by have := hr.1; rw [prs_len] at this; omega
  obtain ⟨⟨n0, n1⟩, hlb⟩ := classes_bd2 l hE
  rw [hlen] at n0 n1
  have HCk := hide (acheck_any l (fun c hc => by have := hlb c hc; omega) C n k B w hr hB (by omega))
  rw [hE] at HCk
  have HL := hide hlen
  have HR := hide hr
  have HLb := hide hlb
  clear hr hE hlen hlb
  go_enter Try.func19, Try.ntmps19
  go_wp2_with fail
  refine HCk.out.mono ?_
  rintro e w1 ⟨rfl, k1⟩
  have K1 := hide k1
  have hw1 : w.heap.size ≤ w1.heap.size := k1.size
  have HA0 := hide (parAr_new w1 w.heap.size l hw1)
  have K2 := hide (k1.alloc (.cells (arC (parAr l 0 none 0)).toArray 122))
  clear k1 HCk
  go_upto_region 5 with fail
  trace "BOX"
  change Hid (IsAr (w1.alloc (.cells #[.slice none 0 0, .int .i64 0, .int .i64 0, .int .i64 0, .int .i64 0, .int .i64 0, .int .i64 0, .int .i64 0, .int .i64 0, .int .i64 0] 122)) w.heap.size w1.heap.size (parAr l 0 none 0)) at HA0
  change Hid (Keeps (fun _ => False) w (w1.alloc (.cells #[.slice none 0 0, .int .i64 0, .int .i64 0, .int .i64 0, .int .i64 0, .int .i64 0, .int .i64 0, .int .i64 0, .int .i64 0, .int .i64 0] 122))) at K2
  generalize w1.alloc _ = w2 at *
  generalize w1.heap.size = a at *
  go_wp2_with fail
  trace "LOOP"
  go_loopw [6, 7, 17] (fun _ _ iv wr => ∃ (i : Nat) (CA : Option Addr) (cap : Nat), i ≤ n ∧ iv = .int .i64 i ∧ Hid (IsAr wr w.heap.size a (parAr l i CA cap)) ∧ Hid (Keeps (fun _ => False) w wr)) (fun _ _ iv _ => n - (intOf iv).toNat)
  case atStart => exact ⟨0, none, 0, by omega, rfl, HA0, K2⟩
  case round =>
    obtain ⟨i, CA, cap, hi, rfl, HA, KR⟩ := hrel
    by_cases hlt : i < n
    · have HLT : Hid (i + 1 ≤ n) := hlt
      obtain ⟨c, hc⟩ : ∃ c, l[i]? = some c := ⟨l[i]'(by have := HL.out; omega), by simp⟩
      obtain ⟨b, off, rfl, hbB, hcell⟩ := (HR.out.kept KR.out (fun _ _ h => h)).2 (by omega)
      obtain ⟨g1, g2⟩ := prs_at hc
      have f1 := hcell _ _ g1
      have f2 := hcell _ _ g2
      rw [← Nat.add_assoc] at f2
      have hltI : (i : Int) < (n : Int) := by omega
      have hj0 : (0 : Int) ≤ (i : Int) := by omega
      have hi8 : (i : Int) < 8 := by omega
      have kA := (Keeps.refl (fun _ => False) wr).alloc (.cells #[.int .i64 c.1, .int .i64 c.2] 37)
      have bA := Blk.new wr 37 #[.int .i64 c.1, .int .i64 c.2]
      have HA1 := hide (HA.out.quiet kA)
      have K1r := hide (KR.out.trans kA)
      have HBA := hide bA
      have HC := hide hc
      clear hcell g1 g2 hc kA bA
      go_upto_region 8 with fail
      trace "R8"
      generalize wr.alloc _ = w5 at *
      generalize wr.heap.size = X at *
      have hcl : (parAr l i CA cap).cls.length = i := by simp [parAr]; have := HL.out; omega
      have HO : Hid (Own w5 w.heap.size 125 4 CA i cap (clsCs ((l.take i).map mkC))) := by have := HA1.out.own; rw [hcl] at this; exact this
      have c0 : w5.cell? ⟨a, 0, none⟩ = some (.slice CA i cap) := by have := IsArH.classes_cell HA1.out; rw [hcl] at this; exact this
      have f0 := HA1.out.blk.frozen 0
      have x0 := HBA.out.cell 0
      have x1 := HBA.out.cell 1
      have hw5 : w.heap.size ≤ w5.heap.size := K1r.out.size
      have HBl := hide HA1.out.blk
      have HBe := hide HA1.out.le
      have hX5 : X < w5.heap.size := HBA.out.lt
      have ha5 : a < w5.heap.size := HBl.out.lt
      clear hcl HA1 HA KR
      simp only [List.getElem?_toArray, List.getElem?_cons_zero, List.getElem?_cons_succ] at x0 x1
      go_region_law ((refine step_app _ elemCls (by rfl) (.tmp 26) (.tmp 29) (by rfl) w.heap.size _ (by rfl) (by exact HO.out.kept (((Keeps.refl (fun _ => False) w5).drew).alloc _) (fun _ _ h => h)) _ (m := 1) [.int .i64 c.1, .int .i64 c.2, .slice none 0 0, .int .i64 0] (by rfl) (by exact Blk.rd (xs := [.int .i64 c.1, .int .i64 c.2, .slice none 0 0, .int .i64 0]) (Blk.new_at _ _ _ _ (by simp)) rfl) (by simp [Value.oneCell']) (by simp only [maxLen]; omega) (by omega) (by simp; omega) ?_; intro A7 c7 w7 o7 k7 hA7; have hkA := ((Keeps.refl (fun _ => False) w5).drew).alloc (.cells #[.int .i64 c.1, .int .i64 c.2, .slice none 0 0, .int .i64 0] 125); have B7 := (HBl.out.kept hkA (fun h => h)).kept k7 (fun h => HO.out.ne_blk HBl.out (by decide) h rfl); have f7 := B7.frozen 0; have q7 : w7.cell? ⟨a, 0, none⟩ = some (.slice CA (parAr l i CA cap).cls.length cap) := B7.cell 0; have HB7 := hide B7; have O7 := hide o7; have K7 := hide ((K1r.out.trans hkA).step k7 (fun b hb h => by have := HO.out.inB h; omega)); clear o7 k7 hA7 B7 hkA))
      trace "R8b"
      all_goals (
        have HB8 := hide (HB7.out.set 0 (.slice A7 (i + 1) c7))
        have kB := keepsOne w7 a 0 (.slice A7 (i + 1) c7)
        have K8 := hide (K7.out.step kB (fun b hb e => by have := HBe.out; omega))
        have O8 := hide (O7.out.kept kB (fun b hb e => O7.out.ne_blk HB7.out (by decide) hb e))
        have q8 := HB8.out.cell (1 + i)
        rw [List.setIfInBounds_toArray, List.getElem?_toArray, arC_cell l i (by omega)] at q8
        have f8 := HB8.out.frozen (1 + i)
        clear HB7 O7 K7 kB
        generalize w7.setCell _ _ = w8 at *
        go_upto_region 9 with fail
        trace "R9"
        go_wp2_with fail
        go_roundw)
      all_goals first
        | (case rel =>
            refine ⟨i + 1, A7, c7, HLT.out, by go_num, ?_, hide (K8.out.step (keepsOne w8 a (1 + i) (.int .i64 (-1))) (fun b hb e => by have := HBe.out; omega))⟩
            have h9 := HB8.out.set (1 + i) (.int .i64 (-1))
            rw [List.setIfInBounds_toArray, List.setIfInBounds_toArray, ← arC_step l i (by omega) (by have := HL.out; omega)] at h9
            refine par_is HBe.out (by have := HL.out; omega) (by omega) h9 ?_
            have h10 := O8.out.kept (keepsOne w8 a (1 + i) (.int .i64 (-1))) (fun b hb e => O8.out.ne_blk HB8.out (by decide) hb e)
            have h11 : clsCs ((l.take (i + 1)).map mkC) = clsCs ((l.take i).map mkC) ++ [.int .i64 c.1, .int .i64 c.2, .slice none 0 0, .int .i64 0] := by
              rw [List.take_add_one, HC.out, List.map_append, clsCs_app]
              rfl
            rw [h11]
            exact h10)
        | (case measure => have := HLT.out; simp [intOf]; omega)
    · obtain rfl : i = n := by omega
      go_wp2_with fail
      go_ret2
      exact ⟨a, CA, cap, rfl, HA.out, KR.out⟩
end Go.Proofs.Ytidobhflijdccaa
