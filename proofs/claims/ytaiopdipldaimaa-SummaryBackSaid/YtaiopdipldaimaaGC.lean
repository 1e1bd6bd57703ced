/-
  Two summaries that say the same are the same to the reference: SameEntries, SameRows, SameSummary. No conditions beyond those of the statement. What Encode gives is read back, in plain Lean. No conditions beyond those of the statement. A summary as an element of a slice. No conditions beyond those of the statement. SummaryBack: the summaries that the law looks at, in a slice of two. No conditions beyond those of the statement. SummaryBack: the loop over the summaries. No conditions beyond those of the statement.
-/
import Derived.Test.YtaiopdipldaimaaGB
import Derived.Test.YtaiopdipldaimaaGH
import Derived.Test.YtaiopdipldaimaaGE
import Derived.Test.YtaiopdipldaimaaYt
import Derived.Deep.RegionHeld3
import Derived.Test.YtaiopdipldaimaaYh
import Derived.Deep.CutBlock
set_option linter.unusedVariables false
set_option linter.unusedSimpArgs false
namespace Go.Proofs.Ytaiopdipldaimaa
open Go.RowKit
set_option maxRecDepth 100000 in
theorem sameEntries_any (l : List Ln) (A A2 : Option Addr) (m c c2 B B2 : Nat) (w : World) (hr : Rd w B A 3 m (lnCs l)) (hr2 : Rd w B2 A2 3 m (lnCs l)) (hm : m ≤ 1000000) :
    Calls Try.prog 62 #[.slice A m c, .slice A2 m c2] w fun e w' => e = .returned (.bool true) ∧ ∃ k, w' = w.drewN k := by
  have hl := lnRd_len hr
  have HR := hide hr
  have HR2 := hide hr2
  have HLl := hide hl
  clear hr hr2 hl
  go_enter Try.func62, Try.ntmps62
  go_upto_region 4 with fail
  go_loopw [13] (fun iv wr => ∃ i k : Nat, i ≤ m ∧ iv = .int .i64 (i : Int) ∧ wr = w.drewN k) (fun iv _ => m - (intOf iv).toNat)
  case atStart => exact ⟨0, 0, by omega, rfl, rfl⟩
  case round =>
    obtain ⟨i, kd, hi, rfl, rfl⟩ := hrel
    by_cases hlt : i < m
    · have e1 : decide (i < m) = true := by simpa using hlt
      obtain ⟨x, hx⟩ : ∃ x, l[i]? = some x := ⟨l[i]'(by rw [HLl.out]; exact hlt), List.getElem?_eq_getElem _⟩
      obtain ⟨b, off, rfl, _, hc⟩ := HR.out.2 (by omega)
      obtain ⟨b2, off2, rfl, _, hc2⟩ := HR2.out.2 (by omega)
      obtain ⟨g0, g1, g2⟩ := lnCs_at hx
      have r0 := hc _ _ g0
      have r1 := hc _ _ g1
      have r2 := hc _ _ g2
      rw [← Nat.add_assoc] at r1 r2
      have t0 := hc2 _ _ g0
      have t1 := hc2 _ _ g1
      have t2 := hc2 _ _ g2
      rw [← Nat.add_assoc] at t1 t2
      clear hc hc2 g0 g1 g2 hx
      go_upto_region 6 with fail
      go_quiet (fail)
      go_wp2_with fail
      go_roundw
      case rel => exact ⟨i + 1, kd + nq, by omega, by go_num, by first | rfl | simp [World.drewN, Nat.add_assoc]⟩
      case measure => simp [intOf]; omega
    · have e1 : decide (i < m) = false := by simpa using hlt
      go_wp2_with fail
      go_ret
      exact ⟨rfl, kd, rfl⟩
theorem sameRows21 (m : Nat) (F G : RowsF) (A A2 : Option Addr) (c c2 B B2 : Nat) (w : World) (hr : Rd w B A 1 m ((List.range m).map fun j => .slice (F j).1 (F j).2.1 (F j).2.2.1)) (hr2 : Rd w B2 A2 1 m ((List.range m).map fun j => .slice (G j).1 (G j).2.1 (G j).2.2.1))
    (hF : RowsRd w B .u64 m F) (hG : RowsRd w B2 .u64 m G) (he : ∀ i, i < m → (F i).2.2.2 = (G i).2.2.2) (hm : m ≤ 140737488351232) (hn : ∀ i, i < m → (F i).2.1 ≤ 140737488351232) :
    Calls Try.prog 36 #[.slice A m c, .slice A2 m c2] w fun e w' => e = .returned (.bool true) ∧ ∃ nq, w' = w.drewN nq := by
  have HR := hide hr
  have HR2 := hide hr2
  have HF := hide hF
  have HG := hide hG
  have HE := hide he
  have HNn := hide hn
  clear hr hr2 hF hG he hn
  go_enter Try.func36, Try.ntmps36
  go_wp2_with fail
  go_loopw [5, 13] (fun _ i wr => ∃ k : Nat, k ≤ m ∧ i = .int .i64 k ∧ ∃ nq, wr = w.drewN nq) (fun _ i _ => m - (intOf i).toNat)
  case atStart => exact ⟨0, by omega, rfl, 0, rfl⟩
  case round =>
    obtain ⟨k, hk, rfl, nq, rfl⟩ := hrel
    by_cases hlt : k < m
    · obtain ⟨b, off, rfl, _, hc⟩ := HR.out.2 (by omega)
      obtain ⟨b2, off2, rfl, _, hc2⟩ := HR2.out.2 (by omega)
      have c1 := hc k (.slice (F k).1 (F k).2.1 (F k).2.2.1) (by simp [hlt])
      have c2' := hc2 k (.slice (G k).1 (G k).2.1 (G k).2.2.1) (by simp [hlt])
      have e3 := HE.out k hlt
      have g1 := (HF.out k hlt).1
      have g2 := (HG.out k hlt).1
      have hn := HNn.out k hlt
      have e1 : (F k).2.2.2.length = (F k).2.1 := by simpa using g1.1
      have e2 : (G k).2.2.2.length = (G k).2.1 := by simpa using g2.1
      have e4 : (G k).2.1 = (F k).2.1 := by rw [← e1, ← e2, e3]
      rw [e4] at c2' g2
      rw [← e3] at g2
      have HS := hide (fun q => sameWords_any (F k).2.2.2 (F k).1 (G k).1 (F k).2.1 (F k).2.2.1 (G k).2.2.1 _ _ (w.drewN q) (g1.drewN q) (g2.drewN q) hn)
      clear hc hc2 e1 e2 e3 e4 g1 g2
      generalize (F k).1 = a1 at *
      generalize (G k).1 = a2 at *
      generalize (F k).2.1 = n1 at *
      generalize (F k).2.2.1 = x1 at *
      generalize (G k).2.2.1 = x2 at *
      have hltI : (k : Int) < (m : Int) := by omega
      go_wp2_with fail
      go_quiet ((go_at_call 67; first | exact quiet_more (HS.out _) | exact quiet_add (HS.out _)))
      go_wp2_with fail
      go_roundw
      case rel => exact ⟨k + 1, by omega, by go_num, _, rfl⟩
      case measure => simp [intOf]; omega
    · go_wp2_with fail
      go_ret
      exact ⟨rfl, nq, rfl⟩
/-- a summary's value reads so -/
def SmR (w : World) (B : Nat) (v : Value) (tot un : Int) (l : List Ln) (R : List (List Int)) : Prop :=
  ∃ A n cA Ro m cR F, v = smV tot A n cA un Ro m cR ∧ SmIn w B A n l Ro m F ∧ Cmp.rowsL F m = R
theorem SmR.kept {w w' : World} {B : Nat} {v : Value} {tot un : Int} {l : List Ln} {R : List (List Int)} {S : Nat → Prop} (h : SmR w B v tot un l R) (k : Keeps S w w') (hs : ∀ b, b < B → ¬ S b) : SmR w' B v tot un l R := by
  obtain ⟨A, n, cA, Ro, m, cR, F, h1, h2, h3⟩ := h
  exact ⟨A, n, cA, Ro, m, cR, F, h1, h2.kept k hs, h3⟩
theorem SmR.more {w : World} {B B' : Nat} {v : Value} {tot un : Int} {l : List Ln} {R : List (List Int)} (h : SmR w B v tot un l R) (hB : B ≤ B') : SmR w B' v tot un l R := by
  obtain ⟨A, n, cA, Ro, m, cR, F, h1, h2, h3⟩ := h
  exact ⟨A, n, cA, Ro, m, cR, F, h1, h2.more hB, h3⟩
def rowQ (Q : List sp21.Rw) : RowsF := fun j => Q.getD j (none, 0, 0, [])
theorem rowQ_cells (Q : List sp21.Rw) : (List.range Q.length).map (fun j => Value.slice (rowQ Q j).1 (rowQ Q j).2.1 (rowQ Q j).2.2.1) = Q.map sp21.rwV := by
  refine List.ext_getElem? fun i => ?_
  by_cases h : i < Q.length
  · simp [rowQ, sp21.rwV, h, List.getD]
  · simp [h]
theorem rowQ_L (Q : List sp21.Rw) : Cmp.rowsL (rowQ Q) Q.length = Q.map (fun q => q.2.2.2) := by
  refine List.ext_getElem? fun i => ?_
  by_cases h : i < Q.length
  · simp [Cmp.rowsL, rowQ, h, List.getD]
  · simp [Cmp.rowsL, h]
/-- what a Decode has laid reads as what the bytes say -/
theorem DecV.smr {w0 w' : World} {D : Dec} {v : Value} (h : DecV w0 D v w') (hl : D.l.length ≤ 1000000) (hR : D.R.length ≤ 1000000) (hn : ∀ x ∈ D.l, U x.lo ∧ U x.hi ∧ x.key.size ≤ 140737488351232) : SmR w' w'.heap.size v D.tot D.un D.l D.R := by
  obtain ⟨A, cA, R, cR, Q, rfl, ho, hr, hq⟩ := h
  have hql : Q.length = D.R.length := by rw [← hq, List.length_map]
  refine ⟨A, D.l.length, cA, R, Q.length, cR, rowQ Q, rfl, ⟨rfl, ho.rd (by omega), by rw [rowQ_cells]; exact hr.own.rd (by omega), fun j hj => ?_, hn, hl, by omega⟩, by rw [rowQ_L]; exact hq⟩
  have hm2 : rowQ Q j ∈ Q := by unfold rowQ; rw [List.getD, List.getElem?_eq_getElem hj]; exact List.getElem_mem _
  obtain ⟨q1, q2⟩ := hr.rows _ hm2
  have hf := q1.form
  refine ⟨q1.rd (by omega), fun z hz => ?_, q1.le, ?_⟩
  · obtain ⟨z0, z1⟩ := q2 z hz
    have h1 : IntKind.u64.min = 0 := rfl
    have h2 : IntKind.u64.max = 18446744073709551615 := rfl
    simp only [Lit.wf, Bool.and_eq_true, decide_eq_true_eq]
    omega
  · rcases hf with ⟨_, _, h⟩ | ⟨_, _, _, _, _, h⟩
    · simp only [maxLen]; omega
    · exact h
set_option maxRecDepth 1000000 in
set_option maxHeartbeats 1000000 in
theorem sameSum_any (w : World) (B : Nat) (tot un : Int) (A A2 R R2 : Option Addr) (n cA cA2 m cR cR2 : Nat) (l : List Ln) (F G : RowsF) (h : SmIn w B A n l R m F) (h2 : SmIn w B A2 n l R2 m G) (he : ∀ i, i < m → (F i).2.2.2 = (G i).2.2.2) (hn : ∀ i, i < m → (F i).2.1 ≤ 140737488351232) :
    Calls Try.prog 31 #[smV tot A n cA un R m cR, smV tot A2 n cA2 un R2 m cR2] w fun e w' => e = .returned (.bool true) ∧ Keeps (fun _ => False) w w' := by
  obtain ⟨w2, hw2⟩ : ∃ w2, w2 = (w.alloc (.cells (smC tot A n cA un R m cR) 45)).alloc (.cells (smC tot A2 n cA2 un R2 m cR2) 45) := ⟨_, rfl⟩
  have k2 : Keeps (fun _ => False) w w2 := by rw [hw2]; exact ((Keeps.refl _ _).alloc _).alloc _
  have b3 : Blk w2 w.heap.size 45 (smC tot A n cA un R m cR) := by rw [hw2]; exact (Blk.new _ _ _).alloc _
  have b4 : Blk w2 (w.heap.size + 1) 45 (smC tot A2 n cA2 un R2 m cR2) := by rw [hw2]; exact Blk.new_at _ _ _ _ (by simp)
  have s0 := b3.cell 0
  have s1 := b3.cell 1
  have s2 := b3.cell 2
  have t0 := b4.cell 0
  have t1 := b4.cell 1
  have t2 := b4.cell 2
  have B3 := hide b3
  have B4 := hide b4
  have K2 := hide k2
  have HW2 := hide hw2
  have HH := hide (h.kept k2 (fun _ _ h => h))
  have HH2 := hide (h2.kept k2 (fun _ _ h => h))
  have HE := hide he
  have HNn := hide hn
  have hn1 := h.n1
  have hm1 := h.m1
  clear hw2 k2 b3 b4 h h2 he hn
  go_enter Try.func31, Try.ntmps31
  go_upto_region 1 with fail
  rw [← HW2.out]
  clear HW2
  generalize w.heap.size = gs at *
  go_wp2_with fail
  trace "ENTS"
  refine (sameEntries_any l A A2 n cA cA2 B B w2 HH.out.ents HH2.out.ents (by omega)).mono ?_
  rintro e w3 ⟨rfl, q3, rfl⟩
  have s3 : (w2.drewN q3).cell? ⟨gs, 3, none⟩ = some (.slice R m cR) := B3.out.cell 3
  have t3 : (w2.drewN q3).cell? ⟨gs + 1, 3, none⟩ = some (.slice R2 m cR2) := B4.out.cell 3
  go_wp2_with fail
  trace "ROWS"
  refine (sameRows21 m F G R R2 cR cR2 B B _ (HH.out.rows.drewN q3) (HH2.out.rows.drewN q3) (fun j hj => ⟨(HH.out.rrd j hj).1.drewN q3, (HH.out.rrd j hj).2⟩) (fun j hj => ⟨(HH2.out.rrd j hj).1.drewN q3, (HH2.out.rrd j hj).2⟩) HE.out (by omega) HNn.out).mono ?_
  rintro e w4 ⟨rfl, q4, rfl⟩
  go_wp2_with fail
  go_ret
  exact ⟨rfl, K2.out.drewN (q3 + q4)⟩
end Go.Proofs.Ytaiopdipldaimaa

set_option linter.unusedVariables false
set_option linter.unusedSimpArgs false
namespace Go.Proofs.Ytaiopdipldaimaa
open Go.RowKit Vp enc21
theorem numP_enc (z : Int) (h : U z) (a : List UInt8) : numP (enc z.toNat ++ a) 0 = (z, a, 0) := by
  have hp := parse_enc z.toNat (by omega) a
  unfold numP
  rw [if_pos rfl, hp]
  simp only [List.drop_left, Int.toNat_of_nonneg h.1]
  rfl
theorem uptoP_enc (k : Nat) (most over : Int) (hk : (k : Int) ≤ most) (h : k < 18446744073709551616) (a : List UInt8) : uptoP (enc k ++ a) 0 most over = ((k : Int), a, 0) := by
  have hp := numP_enc (k : Int) ⟨by omega, by omega⟩ a
  rw [Int.toNat_natCast] at hp
  unfold uptoP
  rw [hp]
  rw [if_pos rfl, if_neg (by simp; omega)]
theorem textP_enc (k : List UInt8) (hk : k.length ≤ 255) (a : List UInt8) : textP (enc k.length ++ k ++ a) 0 = (k, a, 0) := by
  have hp := uptoP_enc k.length 255 4 (by omega) (by omega) (k ++ a)
  rw [← List.append_assoc] at hp
  unfold textP
  rw [hp]
  rw [if_pos rfl, if_neg (by simp)]
  simp
theorem entP_enc (x : Ln) (h1 : U x.lo) (h2 : U x.hi) (h3 : x.key.size ≤ 255) (a : List UInt8) : entP (encEnt x ++ a) 0 = (x, a, 0) := by
  have hl : x.key.data.toList.length = x.key.size := by simp
  have ht := textP_enc x.key.data.toList (by omega) (enc x.lo.toNat ++ (enc x.hi.toNat ++ a))
  rw [hl] at ht
  have e : encEnt x ++ a = enc x.key.size ++ x.key.data.toList ++ (enc x.lo.toNat ++ (enc x.hi.toNat ++ a)) := by simp [encEnt, List.append_assoc]
  unfold entP
  rw [e, ht]
  simp only [numP_enc _ h1, numP_enc _ h2]
theorem entsP_enc : ∀ (l : List Ln), (∀ x ∈ l, U x.lo ∧ U x.hi ∧ x.key.size ≤ 255) → ∀ a : List UInt8, entsP l.length (l.flatMap encEnt ++ a) 0 = (l, a, 0)
  | [], _, a => rfl
  | x :: l, h, a => by
    have hx := h x (by simp)
    have hi := entsP_enc l (fun y hy => h y (by simp [hy])) a
    rw [List.flatMap_cons, List.append_assoc]
    show (let y := entP (encEnt x ++ (l.flatMap encEnt ++ a)) 0; let r := entsP l.length y.2.1 y.2.2; (y.1 :: r.1, r.2)) = _
    rw [entP_enc x hx.1 hx.2.1 hx.2.2]
    simp only [hi]
theorem numsP_enc : ∀ (l : List Int), (∀ x ∈ l, U x) → ∀ a : List UInt8, numsP l.length (encNum l ++ a) 0 = (l, a, 0)
  | [], _, a => rfl
  | x :: l, h, a => by
    have hi := numsP_enc l (fun y hy => h y (by simp [hy])) a
    have e : encNum (x :: l) = enc x.toNat ++ encNum l := by simp [encNum]
    rw [e, List.append_assoc]
    show (let y := numP (enc x.toNat ++ (encNum l ++ a)) 0; let r := numsP l.length y.2.1 y.2.2; (y.1 :: r.1, r.2)) = _
    rw [numP_enc x (h x (by simp))]
    simp only [hi]
theorem drowP_enc (r : List Int) (h : ∀ x ∈ r, U x) (hl : r.length ≤ 256) (a : List UInt8) : drowP (encRow r ++ a) 0 = (r, a, 0) := by
  have hu := uptoP_enc r.length 256 7 (by omega) (by omega) (encNum r ++ a)
  unfold drowP encRow
  rw [List.append_assoc, hu]
  simp only [Int.toNat_natCast, numsP_enc r h]
theorem drowsP_enc : ∀ (R : List (List Int)), (∀ r ∈ R, (∀ x ∈ r, U x) ∧ r.length ≤ 256) → ∀ a : List UInt8, drowsP R.length (R.flatMap encRow ++ a) 0 = (R, a, 0)
  | [], _, a => rfl
  | r :: R, h, a => by
    have hx := h r (by simp)
    have hi := drowsP_enc R (fun y hy => h y (by simp [hy])) a
    rw [List.flatMap_cons, List.append_assoc]
    show (let y := drowP (encRow r ++ (R.flatMap encRow ++ a)) 0; let q := drowsP R.length y.2.1 y.2.2; (y.1 :: q.1, q.2)) = _
    rw [drowP_enc r hx.1 hx.2]
    simp only [hi]
theorem decP_enc (tot un : Int) (l : List Ln) (R : List (List Int)) (ht : U tot) (hu : U un) (hl : ∀ x ∈ l, U x.lo ∧ U x.hi) (hR : ∀ r ∈ R, ∀ x ∈ r, U x) (he : encErr l R = 0) : decP (encAll tot un l R) = ⟨tot, un, l, R, 0⟩ := by
  unfold encErr at he
  split at he
  · cases he
  next h1 =>
  split at he
  · cases he
  next h2 =>
  split at he
  · cases he
  next h3 =>
  have h1' : l.length ≤ 96 ∧ R.length ≤ 4 := by omega
  have h2' : ∀ r ∈ R, r.length ≤ 256 := fun r hr => by
    rw [Bool.not_eq_true, List.any_eq_false] at h2
    have := h2 r hr
    simpa using this
  have h3' : ∀ x ∈ l, x.key.size ≤ 255 := fun x hx => by
    rw [Bool.not_eq_true, List.any_eq_false] at h3
    have := h3 x hx
    simpa using this
  have e : encAll tot un l R = enc tot.toNat ++ (enc un.toNat ++ (enc l.length ++ (l.flatMap encEnt ++ (enc R.length ++ (R.flatMap encRow ++ []))))) := by simp [encAll, List.append_assoc]
  unfold decP
  rw [e]
  simp only [numP_enc _ ht, numP_enc _ hu, uptoP_enc l.length 96 7 (by omega) (by omega), Int.toNat_natCast, entsP_enc l (fun x hx => ⟨(hl x hx).1, (hl x hx).2, h3' x hx⟩), uptoP_enc R.length 4 7 (by omega) (by omega), drowsP_enc R (fun r hr => ⟨hR r hr, h2' r hr⟩)]
  rfl
/-- what the bytes say is small -/
theorem decP_bd (L : List UInt8) : (decP L).l.length ≤ 1000000 ∧ (decP L).R.length ≤ 1000000 ∧ (∀ x ∈ (decP L).l, U x.lo ∧ U x.hi ∧ x.key.size ≤ 140737488351232) ∧ (∀ r ∈ (decP L).R, r.length ≤ 256) := by
  unfold decP
  simp only []
  split
  · refine ⟨?_, ?_, fun x hx => ?_, fun r hr => (drowsP_bd _ _ _ r hr).2⟩
    · simp only [entsP_len]
      have := uptoP_bd (numP (numP L 0).2.1 (numP L 0).2.2).2.1 (numP (numP L 0).2.1 (numP L 0).2.2).2.2 96 7 (by omega)
      omega
    · simp only [drowsP_len]
      have h := fun L e => (uptoP_bd L e 4 7 (by omega)).2
      have := h (entsP (uptoP (numP (numP L 0).2.1 (numP L 0).2.2).2.1 (numP (numP L 0).2.1 (numP L 0).2.2).2.2 96 7).1.toNat (uptoP (numP (numP L 0).2.1 (numP L 0).2.2).2.1 (numP (numP L 0).2.1 (numP L 0).2.2).2.2 96 7).2.1 (uptoP (numP (numP L 0).2.1 (numP L 0).2.2).2.1 (numP (numP L 0).2.1 (numP L 0).2.2).2.2 96 7).2.2).2.1 (entsP (uptoP (numP (numP L 0).2.1 (numP L 0).2.2).2.1 (numP (numP L 0).2.1 (numP L 0).2.2).2.2 96 7).1.toNat (uptoP (numP (numP L 0).2.1 (numP L 0).2.2).2.1 (numP (numP L 0).2.1 (numP L 0).2.2).2.2 96 7).2.1 (uptoP (numP (numP L 0).2.1 (numP L 0).2.2).2.1 (numP (numP L 0).2.1 (numP L 0).2.2).2.2 96 7).2.2).2.2
      omega
    · have := entsP_bd _ _ _ x hx
      exact ⟨this.1, this.2.1, by omega⟩
  · refine ⟨by simp, by simp, fun x hx => (by cases hx), fun r hr => (by cases hr)⟩
end Go.Proofs.Ytaiopdipldaimaa

set_option linter.unusedVariables false
set_option linter.unusedSimpArgs false
namespace Go.Proofs.Ytaiopdipldaimaa
open Go.RowKit Cfp
namespace sbounds
/-- a summary as an element -/
structure Sm where
  tot : Int
  un : Int
  A : Option Addr
  R : Option Addr
  n : Nat
  cA : Nat
  m : Nat
  cR : Nat
def Sm.cells (x : Sm) : List Value := [.int .u64 x.tot, .slice x.A x.n x.cA, .int .u64 x.un, .slice x.R x.m x.cR]
theorem sm_get : ∀ (xs : List Sm) (i : Nat) (x : Sm), xs[i]? = some x → ∀ (t : Nat) (v : Value), x.cells[t]? = some v → (xs.flatMap Sm.cells)[i * 4 + t]? = some v
  | [], i, x, h, t, v, hv => by simp at h
  | y :: xs, 0, x, h, t, v, hv => by
    obtain rfl : y = x := by simpa using h
    have h17 : t < y.cells.length := (List.getElem?_eq_some_iff.1 hv).1
    rw [List.flatMap_cons, Nat.zero_mul, Nat.zero_add, List.getElem?_append_left h17]
    exact hv
  | y :: xs, i + 1, x, h, t, v, hv => by
    have hl : y.cells.length = 4 := rfl
    rw [List.flatMap_cons, List.getElem?_append_right (by rw [hl]; omega), hl, show (i + 1) * 4 + t - 4 = i * 4 + t from by omega]
    exact sm_get xs i x (by simpa using h) t v hv
end sbounds
end Go.Proofs.Ytaiopdipldaimaa

set_option linter.unusedVariables false
set_option linter.unusedSimpArgs false
namespace Go.Proofs.Ytaiopdipldaimaa
open Go.RowKit Cfp
open sbounds (Sm sm_get)
/-- a summary that can be encoded -/
def SmOk (w : World) (B : Nat) (x : Sm) : Prop := ∃ l F, SmIn w B x.A x.n l x.R x.m F ∧ U x.tot ∧ U x.un ∧ (∀ j, j < x.m → (F j).2.1 ≤ 300)
theorem SmOk.kept {w w' : World} {B : Nat} {x : Sm} {S : Nat → Prop} (h : SmOk w B x) (k : Keeps S w w') (hs : ∀ b, b < B → ¬ S b) : SmOk w' B x := by
  obtain ⟨l, F, h1, h2⟩ := h
  exact ⟨l, F, h1.kept k hs, h2⟩
theorem SmOk.more {w : World} {B B' : Nat} {x : Sm} (h : SmOk w B x) (hB : B ≤ B') : SmOk w B' x := by
  obtain ⟨l, F, h1, h2⟩ := h
  exact ⟨l, F, h1.more hB, h2⟩
/-- a drawn summary -/
def Drawn (w : World) (B g : Nat) (e : Ending) (w' : World) : Prop :=
  ∃ (x : Sm) (l : List Ln) (F : RowsF), e = .returned (smV x.tot x.A x.n x.cA x.un x.R x.m x.cR) ∧ (SmIn w' w'.heap.size x.A x.n l x.R x.m F ∧ U x.tot ∧ U x.un ∧ encErr l (Cmp.rowsL F x.m) = 0) ∧ (∀ j, j < x.m → (F j).2.1 ≤ 300) ∧ (x.n ≤ 4 ∧ x.m ≤ 4) ∧ IsDeck w' B g ∧ Keeps (· = g) w w'
theorem drawn_of {w w' : World} {B g : Nat} {c : Cfg} {e : Ending} (hm : Mild c) (h : Sums w B g c e w') : Drawn w B g e w' := by
  obtain ⟨tot5, un5, left, kb, l5, P, A5, cA5, R5, cR5, rfl, ht5, hu5, hl4, hok, oA, hPd, oR, hP, d5, k5⟩ := h
  have hP4 : P.length ≤ 4 := by have := hm.depth; rcases hPd with h | h; (rw [h]; simp); omega
  have hwd9 : c.width.toNat ≤ 9 := by have h1 := hm.width; omega
  have SI5 := sum_in ht5.2 hl4 hP4 hwd9 hok oA oR (fun p hp => (hP p hp).2)
  refine ⟨⟨tot5, un5, A5, R5, l5.length, cA5, P.length, cR5⟩, l5, rowP c.width.toNat P, rfl, ⟨SI5, ⟨ht5.1, by have := ht5.2; show tot5 < _; omega⟩, ⟨hu5.1, by have := hu5.2; have := ht5.2; show un5 < _; omega⟩, ?_⟩, fun j hj => (by show c.width.toNat ≤ 300; omega), ⟨hl4, hP4⟩, d5, k5⟩
  show encErr l5 (Cmp.rowsL (rowP c.width.toNat P) P.length) = 0
  rw [rowP_L]
  unfold encErr
  rw [if_neg (by rw [List.length_map]; omega), if_neg, if_neg]
  · rw [Bool.not_eq_true, List.any_eq_false]
    intro x hx
    obtain ⟨m, _, _, hk⟩ := hok.key x hx
    simp only [hk, keyOf_size]
    decide
  · rw [Bool.not_eq_true, List.any_eq_false]
    intro r hr
    obtain ⟨p, hp, rfl⟩ := List.mem_map.1 hr
    have := (hP p hp).2.1
    simp only [this]
    simp; omega
theorem drawn_any (B g : Nat) (w : World) (h : IsDeck w B g) (c : Cfg) (hm : Mild c) (C T : Option Addr) (n k q j : Nat) : Calls Try.prog 24 #[.pointer (some ⟨g, 0, none⟩), Value.agg #[.int .i64 c.length, .int .i64 c.lateness, .int .i64 c.windows, .int .i64 c.shards, .int .i64 c.spread, .int .i64 c.queue, .int .i64 c.mode, .int .i64 c.slots, .int .i64 c.exact_, .int .u64 c.promote, .int .i64 c.depth, .int .i64 c.width, .int .i64 c.top, .int .i64 c.key, .slice C n k, .slice T q j, .int .u64 c.seed]] w (Drawn w B g) :=
  (dsummary_any B g w h c hm C T n k q j).mono fun _ _ h => drawn_of hm h
/-- Config, by what is needed of it here -/
def CfgV (w : World) (B g : Nat) (e : Ending) (w' : World) : Prop :=
  ∃ (c : Cfg) (C T : Option Addr) (n k q j : Nat), e = .returned (Value.agg #[.int .i64 c.length, .int .i64 c.lateness, .int .i64 c.windows, .int .i64 c.shards, .int .i64 c.spread, .int .i64 c.queue, .int .i64 c.mode, .int .i64 c.slots, .int .i64 c.exact_, .int .u64 c.promote, .int .i64 c.depth, .int .i64 c.width, .int .i64 c.top, .int .i64 c.key, .slice C n k, .slice T q j, .int .u64 c.seed]) ∧ Mild c ∧ IsDeck w' B g ∧ Keeps (· = g) w w'
theorem cfgv_any (B g : Nat) (w : World) (h : IsDeck w B g) : Calls Try.prog 25 #[.pointer (some ⟨g, 0, none⟩)] w (CfgV w B g) :=
  (config_any B g w h).mono fun e w' h => by
    obtain ⟨c, lc, G, b, ts, rfl, hm, hl, hsn, hG, bG, tl, tb, bt, hb, d3, k3⟩ := h
    exact ⟨c, _, _, _, _, _, _, rfl, hm, d3, k3⟩
namespace sback
noncomputable def rg4 : Code := ((Try.f6.body.bind (sbd.findReg 4)).getD .skip)
def Rd4 (X : Nat) (s : Array Value) (w : World) : Prop :=
  w.cell? ⟨X, 0, none⟩ = s[0]? ∧ w.cell? ⟨X, 1, none⟩ = s[1]? ∧ w.cell? ⟨X, 2, none⟩ = s[2]? ∧ w.cell? ⟨X, 3, none⟩ = s[3]?
def Two (w1 : World) (B g : Nat) (x1 : Sm) (G : Nat) (w' : World) : Prop :=
  ∃ (x2 : Sm), SmOk w' w'.heap.size x2 ∧ Blk w' G 45 ([x1, x2].flatMap Sm.cells).toArray ∧ IsDeck w' B g ∧ Keeps (· = g) w1 w'
set_option maxRecDepth 1000000 in
set_option maxHeartbeats 4000000 in
theorem reg4 (w1 : World) (X2 B g : Nat) (t2 u2 : Int) (A2 R2 : Option Addr) (n2 c2 m2 d2 : Nat) (hD : IsDeck w1 B g)
    (b2 : Blk w1 X2 45 (smC t2 A2 n2 c2 u2 R2 m2 d2)) (hX : X2 ≠ g) (s0 s1 s3 s4 s6 s7 s8 s9 s10 s11 s12 s13 s14 s15 s16 s17 s18 s19 s20 s21 s22 s23 s24 s25 s26 s27 s28 s29 s30 s31 s32 s33 s34 s35 s36 s37 s38 s39 s40 s41 s42 s43 s44 s45 s46 s47 s48 s49 s50 s51 s52 s53 s54 s55 s56 s57 s58 s59 s60 s61 s62 s63 s64 s65 s66 : Value) :
    Code.wp Try.prog rg4 (sbd.NormPost fun a' w' => ∃ G, Two w1 B g ⟨t2, u2, A2, R2, n2, c2, m2, d2⟩ G w' ∧ (∃ u20 u21 u22 u23 u24 : Value, a' = ⟨#[s0, s1, .pointer (some ⟨X2, 0, none⟩), s3, s4, .pointer (some ⟨g, 0, none⟩), s6, s7, s8, s9, s10, s11, s12, s13, s14, s15, s16, s17, s18, s19, u20, u21, u22, u23, u24, .slice (some ⟨G, 0, none⟩) 2 2, .int .i64 2, .int .i64 0, s28, s29, s30, s31, s32, s33, s34, s35, s36, s37, s38, s39, s40, s41, s42, s43, s44, s45, s46, s47, s48, s49, s50, s51, s52, s53, s54, s55, s56, s57, s58, s59, s60, s61, s62, s63, s64, s65, s66], []⟩)) ⟨#[s0, s1, .pointer (some ⟨X2, 0, none⟩), s3, s4, .pointer (some ⟨g, 0, none⟩), s6, s7, s8, s9, s10, s11, s12, s13, s14, s15, s16, s17, s18, s19, s20, s21, s22, s23, s24, s25, s26, s27, s28, s29, s30, s31, s32, s33, s34, s35, s36, s37, s38, s39, s40, s41, s42, s43, s44, s45, s46, s47, s48, s49, s50, s51, s52, s53, s54, s55, s56, s57, s58, s59, s60, s61, s62, s63, s64, s65, s66], []⟩ w1 := by
  have hgl := hD.lt
  have HRd : Hid (∀ W, Keeps (· = g) w1 W → Rd4 X2 (smC t2 A2 n2 c2 u2 R2 m2 d2) W) := hide (fun W kW => ⟨(b2.kept kW hX).cell 0, (b2.kept kW hX).cell 1, (b2.kept kW hX).cell 2, (b2.kept kW hX).cell 3⟩)
  have kd : Keeps (· = g) w1 w1.drew := (Keeps.refl _ _).drew
  have DK := hide (hD.kept (S := (fun _ => False)) (w' := w1.drew) (Keeps.refl _ _).drew (fun h => h) (fun _ _ h => h))
  have KD := hide kd
  clear b2 hD
  conv => arg 2; whnf
  dsimp only
  refine wp_region_held_drew (S := Rd4 X2 (smC t2 A2 n2 c2 u2 R2 m2 d2)) (by kernel_rfl) (HRd.out _ kd) (fun hHeld => ?_)
  clear kd
  refine wpAnyH_take (i := 0) (v := ?_) rfl (by kernel_rfl) (by kernel_rfl) (by kernel_rfl) (fun _ _ _ h => h) (Or.inl ⟨by kernel_rfl, ?_⟩) (by assumption) ?_; rotate_left; focus (intro w hSw; (try dsimp only at hSw); obtain ⟨h1, h2, h3, h4⟩ := hSw; go_simp; try (with_reducible rfl)); (try simp only [Act.put, List.setIfInBounds_toArray, List.set_cons_zero, List.set_cons_succ])
  refine wpAnyH_take (i := 1) (v := ?_) rfl (by kernel_rfl) (by kernel_rfl) (by kernel_rfl) (fun _ _ _ h => h) (Or.inl ⟨by kernel_rfl, ?_⟩) (by assumption) ?_; rotate_left; focus (intro w hSw; (try dsimp only at hSw); obtain ⟨h1, h2, h3, h4⟩ := hSw; go_simp; try (with_reducible rfl)); (try simp only [Act.put, List.setIfInBounds_toArray, List.set_cons_zero, List.set_cons_succ])
  refine wpAnyH_take (i := 2) (v := ?_) rfl (by kernel_rfl) (by kernel_rfl) (by kernel_rfl) (fun _ _ _ h => h) (Or.inl ⟨by kernel_rfl, ?_⟩) (by assumption) ?_; rotate_left; focus (intro w hSw; (try dsimp only at hSw); obtain ⟨h1, h2, h3, h4⟩ := hSw; go_simp; try (with_reducible rfl)); (try simp only [Act.put, List.setIfInBounds_toArray, List.set_cons_zero, List.set_cons_succ])
  refine wpAnyH_take (i := 7) (v := ?_) rfl (by kernel_rfl) (by kernel_rfl) (by kernel_rfl) (fun _ _ _ h => h) (Or.inl ⟨by kernel_rfl, ?_⟩) (by assumption) ?_; rotate_left; focus (intro w hSw; (try dsimp only at hSw); obtain ⟨h1, h2, h3, h4⟩ := hSw; go_simp; try (with_reducible rfl)); (try simp only [Act.put, List.setIfInBounds_toArray, List.set_cons_zero, List.set_cons_succ])
  trace "TAKEN"
  refine wpAnyH_ready (rs := [3]) (by kernel_rfl) (by simp) ?_
  refine AllReadyH.cons rfl (fun K hK => ?_) AllReadyH.nil
  go_simp
  go_at_call 25
  refine (cfgv_any B g _ DK.out).mono ?_
  rintro e W1 ⟨c, C, T, nc, kc, qc, jc, rfl, hm, d1, kk⟩
  have K1 := hide (KD.out.trans kk)
  have D1 := hide d1
  have HM := hide hm
  clear d1 hm kk DK
  try go_wp2_with fail
  refine hK.out _ _ (HRd.out _ K1.out) (fun hHeld => ?_)
  clear hK K
  (try simp only [Act.put, List.setIfInBounds_toArray, List.set_cons_zero, List.set_cons_succ])
  trace "CONFIG"
  refine wpAnyH_ready (rs := [4]) (by kernel_rfl) (by simp) ?_
  refine AllReadyH.cons rfl (fun K hK => ?_) AllReadyH.nil
  go_simp
  go_at_call 24
  refine (drawn_any B g W1 D1.out c HM.out _ _ _ _ _ _).mono ?_
  rintro e W2 ⟨⟨tx, ux, Ax, Rx, nx, cx, mx, dx⟩, lx, Fx, rfl, ⟨sx, hu1, hu2, _⟩, h300, _, d2', kk⟩
  have K2 := hide (K1.out.trans kk)
  have D2 := hide d2'
  have SX : Hid (SmOk W2 W2.heap.size ⟨tx, ux, Ax, Rx, nx, cx, mx, dx⟩) := hide ⟨lx, Fx, sx, hu1, hu2, h300⟩
  clear d2' sx hu1 hu2 h300 kk D1 K1
  dsimp only
  try go_wp2_with fail
  refine hK.out _ _ (HRd.out _ K2.out) (fun hHeld => ?_)
  clear hK K
  (try simp only [Act.put, List.setIfInBounds_toArray, List.set_cons_zero, List.set_cons_succ])
  trace "SUMMARY"
  refine wpAnyH_ready (rs := [5]) (by kernel_rfl) (by simp) ?_
  refine AllReadyH.cons rfl (fun K hK => ?_) AllReadyH.nil
  go_simp
  have kA : Keeps (fun _ => False) W2 (W2.alloc (.cells #[.int .u64 t2, .slice A2 n2 c2, .int .u64 u2, .slice R2 m2 d2, .int .u64 tx, .slice Ax nx cx, .int .u64 ux, .slice Rx mx dx] 45)) := (Keeps.refl _ _).alloc _
  have BG : Hid (Blk (W2.alloc (.cells #[.int .u64 t2, .slice A2 n2 c2, .int .u64 u2, .slice R2 m2 d2, .int .u64 tx, .slice Ax nx cx, .int .u64 ux, .slice Rx mx dx] 45)) W2.heap.size 45 #[.int .u64 t2, .slice A2 n2 c2, .int .u64 u2, .slice R2 m2 d2, .int .u64 tx, .slice Ax nx cx, .int .u64 ux, .slice Rx mx dx]) := hide (Blk.new _ _ _)
  have K3 := hide (K2.out.step0 kA)
  have SX2 := hide ((SX.out.kept kA (fun _ _ h => h)).more kA.size)
  have D3 := hide (D2.out.kept kA (fun h => h) (fun _ _ h => h))
  clear kA SX D2 K2
  generalize W2.alloc _ = W3 at *
  generalize W2.heap.size = G at *
  try go_wp2_with fail
  refine hK.out _ _ (HRd.out _ K3.out) (fun hHeld => ?_)
  clear hK K
  (try simp only [Act.put, List.setIfInBounds_toArray, List.set_cons_zero, List.set_cons_succ])
  trace "BUILT"
  refine wpAnyH_take (i := 6) (v := ?_) rfl (by kernel_rfl) (by kernel_rfl) (by kernel_rfl) (fun _ _ _ h => h) (Or.inl ⟨by kernel_rfl, ?_⟩) (by assumption) ?_; rotate_left; focus (intro w hSw; (try dsimp only at hSw); obtain ⟨h1, h2, h3, h4⟩ := hSw; go_simp; try (with_reducible rfl)); (try simp only [Act.put, List.setIfInBounds_toArray, List.set_cons_zero, List.set_cons_succ])
  refine wpAnyH_done (by kernel_rfl) ?_ _
  refine ⟨G, ⟨_, SX2.out, BG.out, D3.out, K3.out⟩, ⟨_, _, _, _, _, rfl⟩⟩
end sback
end Go.Proofs.Ytaiopdipldaimaa

set_option linter.unusedVariables false
set_option linter.unusedSimpArgs false
namespace Go.Proofs.Ytaiopdipldaimaa
open Go.RowKit Cfp Vp
open sbounds (Sm sm_get)
theorem rowsL_ext {F G : RowsF} {m m2 : Nat} (h : Cmp.rowsL G m2 = Cmp.rowsL F m) : m2 = m ∧ ∀ i, i < m → (F i).2.2.2 = (G i).2.2.2 := by
  have hl : m2 = m := by have := congrArg List.length h; rwa [Cmp.rowsL_len, Cmp.rowsL_len] at this
  subst hl
  refine ⟨rfl, fun i hi => ?_⟩
  have := congrArg (fun l => l[i]?) h
  simp only [rowsL_get hi] at this
  simpa using this.symm
namespace sback
noncomputable def lp : Code := ((Try.f6.body.bind fun c => (enc21.loops c)[0]?).getD .skip)
def LoopPostK (k : Nat) (W : Act → World → Prop) : Exit → Act → World → Prop
  | .exit i, a, w => i = k ∧ W a w
  | _, _, _ => False
set_option maxRecDepth 1000000 in
set_option maxHeartbeats 4000000 in
theorem loop (w6 : World) (GS : Nat) (xs : List Sm) (hl : xs.length = 2) (hF : ∀ x ∈ xs, SmOk w6 w6.heap.size x) (bG : Blk w6 GS 45 (xs.flatMap Sm.cells).toArray) (s0 s1 s2 s3 s4 s5 s6 s7 s8 s9 s10 s11 s12 s13 s14 s15 s16 s17 s18 s19 s20 s21 s22 s23 s24 s28 s29 s30 s31 s32 s33 s34 s35 s36 s37 s38 s39 s40 s41 s42 s43 s44 s45 s46 s47 s48 s49 s50 s51 s52 s53 s54 s55 s56 s57 s58 s59 s60 s61 s62 s63 s64 s65 s66 : Value) :
    Code.wp Try.prog (Code.loop lp) (LoopPostK 0 fun a' w' => (∃ u4 u7 u8 u9 u10 u11 u27 u28 u29 u30 u31 u32 u33 u34 u35 u36 u37 u38 u39 u40 u41 u42 u43 u44 u45 u46 u47 u48 u49 u50 u51 u52 u53 : Value, a' = ⟨#[s0, s1, s2, s3, u4, s5, s6, u7, u8, u9, u10, u11, s12, s13, s14, s15, s16, s17, s18, s19, s20, s21, s22, s23, s24, .slice (some ⟨GS, 0, none⟩) 2 2, .int .i64 2, u27, u28, u29, u30, u31, u32, u33, u34, u35, u36, u37, u38, u39, u40, u41, u42, u43, u44, u45, u46, u47, u48, u49, u50, u51, u52, u53, s54, s55, s56, s57, s58, s59, s60, s61, s62, s63, s64, s65, s66], []⟩) ∧ Keeps (fun _ => False) w6 w') ⟨#[s0, s1, s2, s3, s4, s5, s6, s7, s8, s9, s10, s11, s12, s13, s14, s15, s16, s17, s18, s19, s20, s21, s22, s23, s24, .slice (some ⟨GS, 0, none⟩) 2 2, .int .i64 2, .int .i64 0, s28, s29, s30, s31, s32, s33, s34, s35, s36, s37, s38, s39, s40, s41, s42, s43, s44, s45, s46, s47, s48, s49, s50, s51, s52, s53, s54, s55, s56, s57, s58, s59, s60, s61, s62, s63, s64, s65, s66], []⟩ w6 := by
  have HF := hide hF
  have BG := hide bG
  have HL := hide hl
  clear hF bG hl
  conv => arg 2; arg 1; whnf
  dsimp only
  go_loopw [27] (fun iv wr => ∃ i : Nat, i ≤ 2 ∧ iv = .int .i64 i ∧ Hid (Keeps (fun _ => False) w6 wr)) (fun iv _ => 2 - (intOf iv).toNat)
  case atStart => exact ⟨0, by omega, rfl, hide (Keeps.refl _ _)⟩
  case round =>
    obtain ⟨i, hi, rfl, KR⟩ := hrel
    by_cases hlt : i < 2
    · have HLT : Hid (i + 1 ≤ 2) := hlt
      obtain ⟨x, hx⟩ : ∃ x, xs[i]? = some x := ⟨xs[i]'(by rw [HL.out]; exact hlt), List.getElem?_eq_getElem _⟩
      have HFx := (HF.out x (List.mem_of_getElem? hx)).kept KR.out (fun _ _ h => h)
      have hc0 := sm_get xs i x hx
      obtain ⟨tot, un, A, R, n, cA, m, cR⟩ := x
      have hO : ∀ (t : Nat) (v : Value), (Sm.cells ⟨tot, un, A, R, n, cA, m, cR⟩)[t]? = some v → wr.cell? ⟨GS, i * 4 + t, none⟩ = some v := fun t v hv => by
        rw [(BG.out.kept KR.out (fun h => h)).cell, List.getElem?_toArray]
        exact hc0 t v hv
      have y0 : wr.cell? ⟨GS, i * 4, none⟩ = some (.int .u64 tot) := hO 0 _ rfl
      have y1 : wr.cell? ⟨GS, i * 4 + 1, none⟩ = some (.slice A n cA) := hO 1 _ rfl
      have y2 : wr.cell? ⟨GS, i * 4 + 2, none⟩ = some (.int .u64 un) := hO 2 _ rfl
      have y3 : wr.cell? ⟨GS, i * 4 + 3, none⟩ = some (.slice R m cR) := hO 3 _ rfl
      have hi0 : (0 : Int) ≤ (i : Int) := by omega
      have hiI : (i : Int) < 2 := by omega
      have b7 := Blk.new wr 45 (smC tot A n cA un R m cR)
      have kA := (Keeps.refl (fun _ => False) wr).alloc (.cells (smC tot A n cA un R m cR) 45)
      obtain ⟨l, F, sm, hut, huu, h300⟩ := HFx
      have SM := hide ((sm.kept kA (fun _ _ h => h)).more (B' := (wr.alloc (.cells (smC tot A n cA un R m cR) 45)).heap.size) (by have := kA.size; have := KR.out.size; omega))
      have H3 := hide h300
      have BS := hide b7
      have KA := hide (KR.out.trans kA)
      have HUU := hide (show U tot ∧ U un from ⟨hut, huu⟩)
      clear hx hc0 hO b7 kA sm hut huu h300 KR
      go_upto_region 7 with fail
      trace "R7"
      generalize wr.alloc _ = w7 at *
      generalize wr.heap.size = X7 at *
      clear y0 y1 y2 y3
      have z0 := BS.out.cell 0
      have z1 := BS.out.cell 1
      have z2 := BS.out.cell 2
      have z3 := BS.out.cell 3
      go_wp2_with fail
      trace "ENC"
      refine (encode_any w7 w7.heap.size tot un A R n cA m cR l F SM.out (Nat.le_refl _) HUU.out.1 HUU.out.2).mono ?_
      rintro e w8 ⟨A1, n1, c1, rfl, hn1, hb1, hc1, hr1, k8⟩
      have BS8 := hide (BS.out.kept k8 (fun h => h))
      have SM8 := hide ((SM.out.kept k8 (fun _ _ h => h)).more k8.size)
      have K8 := hide (KA.out.trans k8)
      clear k8 z0 z1 z2 z3 BS SM KA
      by_cases he : encErr l (Cmp.rowsL F m) = 0
      · rw [he, if_pos rfl] at hr1
        rw [he]
        have hD := decP_enc tot un l (Cmp.rowsL F m) HUU.out.1 HUU.out.2 (fun x hx => ⟨(SM8.out.num x hx).1, (SM8.out.num x hx).2.1⟩) (fun r hr x hx => by
          obtain ⟨j, hj, rfl⟩ : ∃ j, j < m ∧ r = (F j).2.2.2 := by
            obtain ⟨j, hj, rfl⟩ := List.getElem_of_mem hr
            rw [Cmp.rowsL_len] at hj
            exact ⟨j, hj, by have := rowsL_get (F := F) hj; rw [List.getElem?_eq_getElem (by rw [Cmp.rowsL_len]; exact hj)] at this; simpa using this⟩
          exact wf_u64 ((SM8.out.rrd j hj).2.1 x hx)) he
        have hC := sdecode_any w8 w8.heap.size A1 n1 c1 _ hr1 (Nat.le_refl _) hc1 (by omega)
        rw [hD] at hC
        have HC := hide hC
        have HN := hide (decP_bd (encAll tot un l (Cmp.rowsL F m)))
        rw [hD] at HN
        clear hD hC hr1 hn1 hb1 hc1 he
        go_wp2_with fail
        trace "DEC"
        refine HC.out.mono ?_
        rintro e w9 ⟨v, rfl, hv, k9⟩
        obtain ⟨A2, n2, cA2, R2, m2, cR2, G, rfl, s2, hL⟩ := hv.smr HN.out.1 HN.out.2.1 HN.out.2.2.1
        obtain ⟨rfl, hFG⟩ := rowsL_ext hL
        obtain rfl : n2 = n := by have h1 := s2.len; have h2 := SM8.out.len; simp only at h1; omega
        have kB := (Keeps.refl (fun _ => False) w9).alloc (.cells (smC tot A2 n2 cA2 un R2 m2 cR2) 45)
        have BT := hide (Blk.new w9 45 (smC tot A2 n2 cA2 un R2 m2 cR2))
        have BS9 := hide ((BS8.out.kept k9 (fun h => h)).kept kB (fun h => h))
        have SM9 := hide (((SM8.out.kept k9 (fun _ _ h => h)).more k9.size).kept kB (fun _ _ h => h))
        have ST := hide (s2.kept kB (fun _ _ h => h))
        have K9 := hide ((K8.out.trans k9).trans kB)
        have HFG := hide hFG
        clear k9 kB hFG hL s2 hv BS8 SM8 K8 HC HN
        dsimp only
        go_upto_region 9 with fail
        trace "R9"
        generalize w9.alloc _ = wa at *
        generalize w9.heap.size = X10 at *
        have z0 := BS9.out.cell 0
        have z1 := BS9.out.cell 1
        have z2 := BS9.out.cell 2
        have z3 := BS9.out.cell 3
        have t0 := BT.out.cell 0
        have t1 := BT.out.cell 1
        have t2 := BT.out.cell 2
        have t3 := BT.out.cell 3
        go_wp2_with fail
        trace "SAME"
        refine (sameSum_any wa X10 tot un A A2 R R2 n2 cA cA2 m2 cR cR2 l F G SM9.out ST.out HFG.out (fun i hi => by have := H3.out i hi; omega)).mono ?_
        rintro e wb ⟨rfl, kb⟩
        have KN := hide (K9.out.trans kb)
        clear kb z0 z1 z2 z3 t0 t1 t2 t3 BS9 BT SM9 ST K9
        go_wp2_with fail
        trace "ROUND"
        go_roundw
        case rel => exact ⟨i + 1, HLT.out, by go_num, KN⟩
        case measure => have := HLT.out; simp [intOf]; omega
      · rw [if_neg he] at hr1
        have he0 : (encErr l (Cmp.rowsL F m) == 0) = false := by simpa using he
        generalize encErr l (Cmp.rowsL F m) = er at *
        have HC := hide (sdecode_any w8 w8.heap.size A1 n1 c1 _ hr1 (Nat.le_refl _) hc1 (by omega))
        clear hr1 hn1 hb1 hc1 he
        go_wp2_with fail
        trace "DEC2"
        refine HC.out.mono ?_
        rintro e w9 ⟨v, rfl, hv, k9⟩
        obtain ⟨A2, cA2, R2, cR2, Q, rfl, _, _, _⟩ := hv
        generalize (decP []).tot = tq
        generalize (decP []).un = uq
        generalize (decP []).l.length = lq
        generalize (decP []).err = eq
        generalize Q.length = qq
        have kB := (Keeps.refl (fun _ => False) w9).alloc (.cells (smC tq A2 lq cA2 uq R2 qq cR2) 45)
        have KN := hide ((K8.out.trans k9).trans kB)
        clear k9 kB K8 HC
        dsimp only
        go_upto_region 9 with fail
        trace "R9b"
        generalize w9.alloc _ = wa at *
        go_wp2_with fail
        trace "ROUND2"
        go_roundw
        case rel => exact ⟨i + 1, HLT.out, by go_num, KN⟩
        case measure => have := HLT.out; simp [intOf]; omega
    · obtain rfl : i = 2 := by omega
      go_wp2_with fail
      trace "END"
      refine ⟨rfl, ⟨_, _, _, _, _, _, _, _, _, _, _, _, _, _, _, _, _, _, _, _, _, _, _, _, _, _, _, _, _, _, _, _, _, rfl⟩, KR.out⟩
end sback
end Go.Proofs.Ytaiopdipldaimaa
