/-
  summary.Check by its contract. No conditions beyond those of the statement.
-/
import Derived.Test.YtaiopdipldaimaaGD
set_option linter.unusedVariables false
set_option linter.unusedSimpArgs false
namespace Go.Proofs.Ytaiopdipldaimaa
open Go.RowKit Cfp
/-- the first error of the entries from i on -/
def scanE (tot : Int) (l : List Ln) : List Ln → Nat → Int
  | [], _ => 0
  | x :: r, i => if entryE tot l i x = 0 then scanE tot l r (i + 1) else entryE tot l i x
/-- the sum of the weights, and whether it is exact -/
def accE (l : List Ln) : Int × Bool := l.foldl (fun a x => (Sat.add a.1 x.lo, a.2 && Sat.addOk a.1 x.lo)) (0, true)
theorem accE_snoc (l : List Ln) (x : Ln) : accE (l ++ [x]) = (Sat.add (accE l).1 x.lo, (accE l).2 && Sat.addOk (accE l).1 x.lo) := by simp [accE, List.foldl_append]
theorem accE_take {l : List Ln} {i : Nat} {x : Ln} (h : l[i]? = some x) : accE (l.take (i + 1)) = (Sat.add (accE (l.take i)).1 x.lo, (accE (l.take i)).2 && Sat.addOk (accE (l.take i)).1 x.lo) := by
  rw [← accE_snoc, List.take_add_one, h]; rfl
theorem accE_U0 : ∀ (l : List Ln) (a : Int × Bool), U a.1 → (∀ x ∈ l, U x.lo) → U (l.foldl (fun a x => (Sat.add a.1 x.lo, a.2 && Sat.addOk a.1 x.lo)) a).1
  | [], a, h, _ => h
  | x :: l, a, h, hl => accE_U0 l _ (Sat.add_bd _ _ h.1 (hl x (by simp)).1) (fun y hy => hl y (by simp [hy]))
theorem accE_U (l : List Ln) (h : ∀ x ∈ l, U x.lo) : U (accE l).1 := accE_U0 l _ (show U 0 from ⟨by omega, by omega⟩) h
theorem scanE_drop {tot : Int} {l : List Ln} {i : Nat} {x : Ln} (h : l[i]? = some x) : scanE tot l (l.drop i) i = if entryE tot l i x = 0 then scanE tot l (l.drop (i + 1)) (i + 1) else entryE tot l i x := by
  have hi := (List.getElem?_eq_some_iff.1 h).1
  rw [List.drop_eq_getElem_cons hi, (List.getElem?_eq_some_iff.1 h).2]
  rfl
/-- the error of a summary -/
def checkE (d wd tot un : Int) (l : List Ln) (R : List (List Int)) : Int :=
  if 9223372036854775808 < tot ∨ tot < un then 1 else if 96 < l.length then 7 else if scanE tot l l 0 = 0 then (if (accE l).2 = false ∨ tot < (accE l).1 then 12 else rowsE d wd tot R) else scanE tot l l 0
set_option maxRecDepth 100000 in
set_option maxHeartbeats 1000000 in
theorem check_any21 (w : World) (B : Nat) (c : Cfg) (C T : Option Addr) (n0 k0 q j : Nat) (tot un : Int) (A R : Option Addr) (n cA m cR : Nat) (l : List Ln) (F : RowsF) (h : SmIn w B A n l R m F) (hB : B ≤ w.heap.size) :
    Calls Try.prog 38 #[Value.agg #[.int .i64 c.length, .int .i64 c.lateness, .int .i64 c.windows, .int .i64 c.shards, .int .i64 c.spread, .int .i64 c.queue, .int .i64 c.mode, .int .i64 c.slots, .int .i64 c.exact_, .int .u64 c.promote, .int .i64 c.depth, .int .i64 c.width, .int .i64 c.top, .int .i64 c.key, .slice C n0 k0, .slice T q j, .int .u64 c.seed], smV tot A n cA un R m cR] w fun e w' => e = .returned (.int .i64 (checkE c.depth c.width tot un l (Cmp.rowsL F m))) ∧ Keeps (fun _ => False) w w' := by
  obtain ⟨w2, hw2⟩ : ∃ w2, w2 = (w.alloc (.cells #[.int .i64 c.length, .int .i64 c.lateness, .int .i64 c.windows, .int .i64 c.shards, .int .i64 c.spread, .int .i64 c.queue, .int .i64 c.mode, .int .i64 c.slots, .int .i64 c.exact_, .int .u64 c.promote, .int .i64 c.depth, .int .i64 c.width, .int .i64 c.top, .int .i64 c.key, .slice C n0 k0, .slice T q j, .int .u64 c.seed] 51)).alloc (.cells (smC tot A n cA un R m cR) 45) := ⟨_, rfl⟩
  have k2 : Keeps (fun _ => False) w w2 := by rw [hw2]; exact ((Keeps.refl _ _).alloc _).alloc _
  have b2 : Blk w2 w.heap.size 51 #[.int .i64 c.length, .int .i64 c.lateness, .int .i64 c.windows, .int .i64 c.shards, .int .i64 c.spread, .int .i64 c.queue, .int .i64 c.mode, .int .i64 c.slots, .int .i64 c.exact_, .int .u64 c.promote, .int .i64 c.depth, .int .i64 c.width, .int .i64 c.top, .int .i64 c.key, .slice C n0 k0, .slice T q j, .int .u64 c.seed] := by rw [hw2]; exact (Blk.new _ _ _).alloc _
  have b3 : Blk w2 (w.heap.size + 1) 45 (smC tot A n cA un R m cR) := by rw [hw2]; exact Blk.new_at _ _ _ _ (by simp)
  have h2 := h.kept k2 (fun _ _ h => h)
  have s0 : w2.cell? ⟨w.heap.size + 1, 0, none⟩ = some (.int .u64 tot) := b3.cell 0
  have s1 : w2.cell? ⟨w.heap.size + 1, 1, none⟩ = some (.slice A n cA) := b3.cell 1
  have s2 : w2.cell? ⟨w.heap.size + 1, 2, none⟩ = some (.int .u64 un) := b3.cell 2
  have B2 := hide b2
  have B3 := hide b3
  obtain ⟨rv, hrv⟩ : ∃ v, v = checkE c.depth c.width tot un l (Cmp.rowsL F m) := ⟨_, rfl⟩
  rw [← hrv]
  have HRV := hide hrv
  have HH := hide h2
  have K2 := hide k2
  have HW2 := hide hw2
  have hn1 := h.n1
  have HLN := hide h.len
  clear hrv hw2 k2 b2 b3 h2 h
  rcases e1 : decide (9223372036854775808 < tot) with _ | _
  rotate_left
  · have HV : Hid (rv = 1) := hide (by rw [HRV.out]; unfold checkE; rw [if_pos (.inl (by simpa using e1))])
    clear HRV
    go_enter Try.func38, Try.ntmps38
    go_upto_region 1 with fail
    rw [← HW2.out]
    clear HW2
    generalize hgs : w.heap.size = gs at *
    go_wp2_with fail
    go_ret
    exact ⟨ret_int HV.out.symm, K2.out⟩
  rcases e2 : decide (tot < un) with _ | _
  rotate_left
  · have HV : Hid (rv = 1) := hide (by rw [HRV.out]; unfold checkE; rw [if_pos (.inr (by simpa using e2))])
    clear HRV
    go_enter Try.func38, Try.ntmps38
    go_upto_region 1 with fail
    rw [← HW2.out]
    clear HW2
    generalize hgs : w.heap.size = gs at *
    go_wp2_with fail
    go_ret
    exact ⟨ret_int HV.out.symm, K2.out⟩
  by_cases h96 : 96 < n
  · have HV : Hid (rv = 7) := hide (by rw [HRV.out]; unfold checkE; rw [if_neg (by simp at e1 e2; omega), if_pos (by rw [HLN.out]; exact h96)])
    have e3 : (96 : Int) < (n : Int) := by omega
    clear HRV
    go_enter Try.func38, Try.ntmps38
    go_upto_region 1 with fail
    rw [← HW2.out]
    clear HW2
    generalize hgs : w.heap.size = gs at *
    go_wp2_with fail
    go_ret
    exact ⟨ret_int HV.out.symm, K2.out⟩
  have HV : Hid (rv = if scanE tot l l 0 = 0 then (if (accE l).2 = false ∨ tot < (accE l).1 then 12 else rowsE c.depth c.width tot (Cmp.rowsL F m)) else scanE tot l l 0) := hide (by rw [HRV.out]; unfold checkE; rw [if_neg (by simp at e1 e2; omega), if_neg (by rw [HLN.out]; exact h96)])
  have e3 : ¬ ((96 : Int) < (n : Int)) := by omega
  clear HRV h96
  go_enter Try.func38, Try.ntmps38
  go_upto_region 1 with fail
  rw [← HW2.out]
  clear HW2
  generalize hgs : w.heap.size = gs at *
  go_wp2_with fail
  trace "LOOP"
  go_loopw [5, 6, 28] (fun ov av iv wr => ∃ i : Nat, i ≤ n ∧ iv = .int .i64 i ∧ ov = .int .u64 (accE (l.take i)).1 ∧ av = .bool (accE (l.take i)).2 ∧ Hid (scanE tot l l 0 = scanE tot l (l.drop i) i) ∧ Hid (Keeps (fun _ => False) w2 wr)) (fun _ _ iv _ => n - (intOf iv).toNat)
  case atStart => exact ⟨0, by omega, rfl, by simp [accE], by simp [accE], hide rfl, hide (Keeps.refl _ _)⟩
  case round =>
    obtain ⟨i, hi, rfl, rfl, rfl, HS, KR⟩ := hrel
    have hsz := KR.out.size
    have b3r := B3.out.kept KR.out (fun h => h)
    have t0 : wr.cell? ⟨gs + 1, 0, none⟩ = some (.int .u64 tot) := b3r.cell 0
    have t1 : wr.cell? ⟨gs + 1, 1, none⟩ = some (.slice A n cA) := b3r.cell 1
    have t2 : wr.cell? ⟨gs + 1, 2, none⟩ = some (.int .u64 un) := b3r.cell 2
    have t3 : wr.cell? ⟨gs + 1, 3, none⟩ = some (.slice R m cR) := b3r.cell 3
    have hg1 := b3r.lt
    have HHr := hide (HH.out.kept KR.out (fun _ _ h => h))
    have hUo := hide (accE_U (l.take i) (fun x hx => (HH.out.num x (List.mem_of_mem_take hx)).1))
    by_cases hlt : i < n
    · have HLT : Hid (i + 1 ≤ n) := hlt
      obtain ⟨x, hx⟩ : ∃ x, l[i]? = some x := ⟨l[i]'(by rw [HLN.out]; exact hlt), by simp⟩
      obtain ⟨b, off, rfl, hbB, c0, c1, c2⟩ := lnRd_at HHr.out.ents hx (by omega)
      have hiI : (i : Int) < (n : Int) := by omega
      have hi0 : (0 : Int) ≤ (i : Int) := by omega
      have hUx := (HH.out.num x (List.mem_of_getElem? hx)).1
      have hAT := hide (accE_take hx)
      obtain ⟨ow, how⟩ : ∃ ow, ow = (accE (l.take i)).1 := ⟨_, rfl⟩
      obtain ⟨al, hal⟩ : ∃ al, al = (accE (l.take i)).2 := ⟨_, rfl⟩
      rw [← how] at hUo
      rw [← how, ← hal] at hAT
      rw [← how, ← hal]
      have kA := (Keeps.refl (fun _ => False) wr).alloc (.cells #[.string x.key, .int .u64 x.lo, .int .u64 x.hi] 99)
      have BA := hide (Blk.new wr 99 #[.string x.key, .int .u64 x.lo, .int .u64 x.hi])
      have HEn := hide (entry_any _ B tot un (some ⟨b, off, none⟩) R n cA m cR l F (HHr.out.kept kA (fun _ _ h => h)) (by simp; omega) i x hx)
      have KA := hide (KR.out.trans kA)
      have HSd := hide (scanE_drop (tot := tot) hx)
      obtain ⟨ev, hev⟩ : ∃ ev, ev = entryE tot l i x := ⟨_, rfl⟩
      rw [← hev] at HEn HSd
      clear kA hev hx how hal
      go_wp2_with fail
      trace "ENTRY"
      refine HEn.out.mono ?_
      rintro e w5 ⟨rfl, k5⟩
      have K5 := hide (KA.out.trans k5)
      have BA5 := hide (BA.out.kept k5 (fun h => h))
      have q1 : w5.cell? ⟨wr.heap.size, 1, none⟩ = some (.int .u64 x.lo) := BA5.out.cell 1
      clear k5 HEn KA BA
      by_cases hz : ev = 0
      · have e4 : (ev != 0) = false := by simp [hz]
        have HSn := hide (HS.out.trans (HSd.out.trans (if_pos hz)))
        obtain ⟨u0, u1⟩ := hUx
        obtain ⟨v0, v1⟩ := hUo.out
        have HSA := hide (fun W => Sat.add_any ow x.lo v0 v1 u0 u1 W)
        clear hz HS HSd
        go_wp2_with fail
        trace "ADD"
        refine (HSA.out _).mono ?_
        rintro e w6 ⟨rfl, rfl⟩
        rcases al with _ | _
        · go_wp2_with fail
          go_roundw
          case rel => exact ⟨i + 1, HLT.out, by go_num, by rw [hAT.out], by rw [hAT.out]; rfl, HSn, K5⟩
          case measure => have := HLT.out; simp [intOf]; omega
        · go_wp2_with fail
          go_roundw
          case rel => exact ⟨i + 1, HLT.out, by go_num, by rw [hAT.out], by rw [hAT.out]; rfl, HSn, K5⟩
          case measure => have := HLT.out; simp [intOf]; omega
      · have e4 : (ev != 0) = true := by simp [hz]
        have HR := hide (show rv = ev by rw [HV.out, HS.out, HSd.out, if_neg hz, if_neg hz])
        clear hz HS HSd
        go_wp2_with fail
        go_ret
        exact ⟨ret_int HR.out.symm, K2.out.trans K5.out⟩
    · obtain rfl : i = n := by omega
      have hT : l.take i = l := List.take_of_length_le (by rw [HLN.out]; exact Nat.le_refl _)
      have hD : l.drop i = [] := List.drop_eq_nil_of_le (by rw [HLN.out]; exact Nat.le_refl _)
      rw [hT] at hUo ⊢
      have HS0 := hide (show scanE tot l l 0 = 0 by rw [HS.out, hD]; rfl)
      have HV2 := hide (HV.out.trans (if_pos HS0.out))
      obtain ⟨ow, how⟩ : ∃ ow, ow = (accE l).1 := ⟨_, rfl⟩
      obtain ⟨al, hal⟩ : ∃ al, al = (accE l).2 := ⟨_, rfl⟩
      rw [← how, ← hal] at HV2
      rw [← how, ← hal]
      have KX := hide (K2.out.trans KR.out)
      have B2r := hide (B2.out.kept KR.out (fun h => h))
      have HRo := hide (fun W (kW : Keeps (fun _ => False) wr W) => rows_any21 W B c C T n0 k0 q j tot un A R i cA m cR l F (HHr.out.kept kW (fun _ _ h => h)) (by have := kW.size; omega))
      obtain ⟨re, hre⟩ : ∃ re, re = rowsE c.depth c.width tot (Cmp.rowsL F m) := ⟨_, rfl⟩
      rw [← hre] at HRo HV2
      clear hT hD HS HV HS0 how hal hre
      rcases al with _ | _
      · go_wp2_with fail
        go_ret
        exact ⟨ret_int (by rw [HV2.out, if_pos (by simp)]), KX.out⟩
      rcases e5 : decide (tot < ow) with _ | _
      rotate_left
      · go_wp2_with fail
        go_ret
        exact ⟨ret_int (by rw [HV2.out, if_pos (.inr (by simpa using e5))]), KX.out⟩
      go_wp2_with (refine cfg_ld _ rfl B2r.out rfl (by rfl) ?_; simp only [Act.put, List.setIfInBounds_toArray, List.set_cons_zero, List.set_cons_succ])
      trace "ROWS"
      refine (HRo.out _ (Keeps.refl _ _)).mono ?_
      rintro e w5 ⟨rfl, k5⟩
      have K5 := hide (KX.out.trans k5)
      clear k5
      go_wp2_with fail
      go_ret
      exact ⟨ret_int (by rw [HV2.out, if_neg (by simp at e5; simp; omega)]), K5.out⟩
end Go.Proofs.Ytaiopdipldaimaa
