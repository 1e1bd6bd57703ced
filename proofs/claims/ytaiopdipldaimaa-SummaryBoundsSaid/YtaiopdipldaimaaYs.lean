/-
  Encode by its contract, of the program and of the reference; the law's awake. No conditions beyond those of the statement.
-/
import Derived.Test.YtaiopdipldaimaaMB
import Derived.Test.YtaiopdipldaimaaSame
set_option linter.unusedVariables false
set_option linter.unusedSimpArgs false
namespace Go.Proofs.Ytaiopdipldaimaa
open Go.RowKit Vp enc21
/-- the error of Encode -/
def encErr (l : List Ln) (R : List (List Int)) : Int := if 96 < l.length ∨ 4 < R.length then 7 else if R.any (fun r => decide (256 < r.length)) = true then 7 else if l.any (fun x => decide (255 < x.key.size)) = true then 4 else 0
/-- the bytes of a summary -/
def encAll (tot un : Int) (l : List Ln) (R : List (List Int)) : List UInt8 := enc tot.toNat ++ enc un.toNat ++ enc l.length ++ l.flatMap encEnt ++ enc R.length ++ R.flatMap encRow
/-- what Encode gives -/
def Encd (w : World) (tot un : Int) (l : List Ln) (R : List (List Int)) (e : Ending) (w' : World) : Prop :=
  ∃ A n c, e = .returned (.tuple #[.slice A n c, .int .i64 (encErr l R)]) ∧ n = (if encErr l R = 0 then encAll tot un l R else []).length ∧ n ≤ 100000 ∧ Rd w' w'.heap.size A 1 n ((if encErr l R = 0 then encAll tot un l R else []).map by8) ∧ Keeps (fun _ => False) w w'
set_option maxRecDepth 100000 in
set_option maxHeartbeats 1000000 in
theorem encode_any (w : World) (B : Nat) (tot un : Int) (A R : Option Addr) (n cA m cR : Nat) (l : List Ln) (F : RowsF) (h : SmIn w B A n l R m F) (hB : B ≤ w.heap.size) (ht : U tot) (hu : U un) :
    Calls Try.prog 26 #[smV tot A n cA un R m cR] w (Encd w tot un l (Cmp.rowsL F m)) := by
  obtain ⟨w2, hw2⟩ : ∃ w2, w2 = w.alloc (.cells (smC tot A n cA un R m cR) 45) := ⟨_, rfl⟩
  have k2 : Keeps (fun _ => False) w w2 := by rw [hw2]; exact (Keeps.refl _ _).alloc _
  have b3 : Blk w2 w.heap.size 45 (smC tot A n cA un R m cR) := by rw [hw2]; exact Blk.new _ _ _
  have HH := hide (h.kept k2 (fun _ _ h => h))
  have s0 : w2.cell? ⟨w.heap.size, 0, none⟩ = some (.int .u64 tot) := b3.cell 0
  have s1 : w2.cell? ⟨w.heap.size, 1, none⟩ = some (.slice A n cA) := b3.cell 1
  have s2 : w2.cell? ⟨w.heap.size, 2, none⟩ = some (.int .u64 un) := b3.cell 2
  have s3 : w2.cell? ⟨w.heap.size, 3, none⟩ = some (.slice R m cR) := b3.cell 3
  have B3 := hide b3
  have K2 := hide k2
  have HW2 := hide hw2
  have HLN := hide h.len
  have hml : (Cmp.rowsL F m).length = m := Cmp.rowsL_len F m
  have HML := hide hml
  have hn1 := h.n1
  have hm1 := h.m1
  clear hw2 k2 b3 h hml
  by_cases h1 : 96 < n ∨ 4 < m
  · have HV : Hid (encErr l (Cmp.rowsL F m) = 7) := hide (by unfold encErr; rw [HLN.out, HML.out, if_pos h1])
    rcases e1 : decide ((96 : Int) < (n : Int)) with _ | _
    · have e2 : decide ((4 : Int) < (m : Int)) = true := by simp at e1 ⊢; omega
      have e2' : (4 : Int) < (m : Int) := by simp at e2; omega
      clear h1 e2
      go_enter Try.func26, Try.ntmps26
      go_upto_region 1 with fail
      rw [← HW2.out]
      clear HW2
      generalize hgs : w.heap.size = gs at *
      go_wp2_with fail
      go_ret2
      exact ⟨none, 0, 0, by rw [HV.out]; rfl, by rw [HV.out]; rfl, by omega, by rw [HV.out]; exact Rd.zero rfl, K2.out⟩
    · clear h1
      go_enter Try.func26, Try.ntmps26
      go_upto_region 1 with fail
      rw [← HW2.out]
      clear HW2
      generalize hgs : w.heap.size = gs at *
      go_wp2_with fail
      go_ret2
      exact ⟨none, 0, 0, by rw [HV.out]; rfl, by rw [HV.out]; rfl, by omega, by rw [HV.out]; exact Rd.zero rfl, K2.out⟩
  have hn96 : n ≤ 96 := by omega
  have hm4 : m ≤ 4 := by omega
  have HE0 : Hid (encErr l (Cmp.rowsL F m) = if (Cmp.rowsL F m).any (fun r => decide (256 < r.length)) = true then 7 else if l.any (fun x => decide (255 < x.key.size)) = true then 4 else 0) := hide (by unfold encErr; rw [HLN.out, HML.out, if_neg h1])
  have e1 : ¬ ((96 : Int) < (n : Int)) := by omega
  have e2 : ¬ ((4 : Int) < (m : Int)) := by omega
  have HLn : Hid (∀ i, i < m → (F i).2.2.2.length = (F i).2.1) := hide (fun i hi => by have := (HH.out.rrd i hi).1.1; simpa using this)
  clear h1
  go_enter Try.func26, Try.ntmps26
  go_upto_region 1 with fail
  rw [← HW2.out]
  clear HW2
  generalize hgs : w.heap.size = gs at *
  go_wp2_with fail
  trace "LOOP0"
  go_loopw [26] (fun iv wr => ∃ i : Nat, i ≤ m ∧ iv = .int .i64 i ∧ Hid (∀ j, j < i → (F j).2.1 ≤ 256) ∧ Hid (Keeps (fun _ => False) w2 wr)) (fun iv _ => m - (intOf iv).toNat)
  case atStart => exact ⟨0, by omega, rfl, hide (fun j h => by omega), hide (Keeps.refl _ _)⟩
  case round =>
    obtain ⟨i, hi, rfl, HJ, KR⟩ := hrel
    by_cases hlt : i < m
    · have HLT : Hid (i + 1 ≤ m) := hlt
      obtain ⟨b, off, rfl, hbB, hc⟩ := (HH.out.rows.kept KR.out (fun _ _ h => h)).2 (by omega)
      have c0 := hc i (.slice (F i).1 (F i).2.1 (F i).2.2.1) (by simp [hlt])
      have hiI : (i : Int) < (m : Int) := by omega
      have hi0 : (0 : Int) ≤ (i : Int) := by omega
      obtain ⟨rl, hrl⟩ : ∃ rl, rl = (F i).2.1 := ⟨_, rfl⟩
      rw [← hrl] at c0
      have HRL := hide hrl
      have HI := hide hlt
      clear hc hrl
      by_cases hs : rl ≤ 256
      · have e4 : ¬ ((256 : Int) < (rl : Int)) := by omega
        have HS := hide hs
        clear hs
        go_wp2_with fail
        go_roundw
        case rel =>
          refine ⟨i + 1, HLT.out, by go_num, hide (fun j hj => ?_), KR⟩
          rcases Nat.lt_or_ge j i with h | h
          · exact HJ.out j h
          · obtain rfl : j = i := by omega
            rw [← HRL.out]; exact HS.out
        case measure => have := HLT.out; simp [intOf]; omega
      · have e4 : (256 : Int) < (rl : Int) := by omega
        have HV : Hid (encErr l (Cmp.rowsL F m) = 7) := hide (by rw [HE0.out, if_pos ((rowsL_any F m _).2 ⟨i, HI.out, by rw [HLn.out i HI.out, ← HRL.out]; simp; omega⟩)])
        clear hs
        go_wp2_with fail
        go_ret2
        exact ⟨none, 0, 0, by rw [HV.out]; rfl, by rw [HV.out]; rfl, by omega, by rw [HV.out]; exact Rd.zero rfl, K2.out.trans KR.out⟩
    · obtain rfl : i = m := by omega
      have HE1 : Hid (encErr l (Cmp.rowsL F i) = if l.any (fun x => decide (255 < x.key.size)) = true then 4 else 0) := hide (by
        rw [HE0.out, if_neg]
        intro he
        obtain ⟨j, hj, hp⟩ := (rowsL_any F i _).1 he
        rw [HLn.out j hj] at hp
        have := HJ.out j hj
        simp at hp; omega)
      have B3r := hide (B3.out.kept KR.out (fun h => h))
      have t0 : wr.cell? ⟨gs, 0, none⟩ = some (.int .u64 tot) := B3r.out.cell 0
      have HHr := hide (HH.out.kept KR.out (fun _ _ h => h))
      have KX := hide (K2.out.trans KR.out)
      obtain ⟨wx, rfl⟩ : ∃ wx : World, wx = wr := ⟨_, rfl⟩
      have hBx : B ≤ wx.heap.size := by have := KX.out.size; omega
      clear HE0 KR HH B3 K2
      go_wp2_with fail
      trace "A1"
      refine (Varint.append_any [] none 0 0 0 wx (Rd.zero rfl) (Nat.zero_le _) (by omega) tot ht.1 ht.2).mono ?_
      rintro e w5 ⟨A5, n5, c5, hn5, rfl, o5, k5⟩
      rw [List.nil_append] at o5 hn5
      have R5 := hide (o5.rd (by omega))
      have K5 := hide k5
      have l5 : n5 ≤ 10 := by have := (enc_len tot.toNat).2; omega
      have t2 : w5.cell? ⟨gs, 2, none⟩ = some (.int .u64 un) := (B3r.out.kept k5 (fun h => h)).cell 2
      clear o5 k5 hn5 t0
      go_wp2_with fail
      trace "A2"
      refine (Varint.append_any (enc tot.toNat) A5 n5 c5 _ w5 R5.out (Nat.le_refl _) (by omega) un hu.1 hu.2).mono ?_
      rintro e w6 ⟨A6, n6, c6, hn6, rfl, o6, k6⟩
      have R6 := hide (o6.rd (by omega))
      have K6 := hide (K5.out.trans k6)
      have l6 : n6 ≤ 20 := by have h1 := (enc_len tot.toNat).2; have h2 := (enc_len un.toNat).2; rw [hn6, List.length_append]; omega
      have t1 : w6.cell? ⟨gs, 1, none⟩ = some (.slice A n cA) := (B3r.out.kept K6.out (fun h => h)).cell 1
      have ew : IntKind.u64.wrap (n : Int) = n := by rw [IntKind.wrap_u64]; omega
      clear o6 k6 hn6 t2 R5 K5 l5
      go_wp2_with fail
      trace "A3"
      refine (Varint.append_any (enc tot.toNat ++ enc un.toNat) A6 n6 c6 _ w6 R6.out (Nat.le_refl _) (by omega) (n : Int) (by omega) (by omega)).mono ?_
      rintro e w7 ⟨A7, n7, c7, hn7, rfl, o7, k7⟩
      rw [Int.toNat_natCast] at o7 hn7
      have K7 := hide (K6.out.trans k7)
      have l7 : (enc tot.toNat ++ enc un.toNat ++ enc n).length ≤ 30 := by have h1 := (enc_len tot.toNat).2; have h2 := (enc_len un.toNat).2; have h3 := (enc_len n).2; simp only [List.length_append]; omega
      have BS7 := hide (show BSt w7 (enc tot.toNat ++ enc un.toNat ++ enc n) (.slice A7 n7 c7) w7 from ⟨A7, n7, c7, rfl, hn7, o7.rd (by omega), Keeps.refl _ _⟩)
      have t1 : w7.cell? ⟨gs, 1, none⟩ = some (.slice A n cA) := (B3r.out.kept K7.out (fun h => h)).cell 1
      have HH7 := hide (HHr.out.kept K7.out (fun _ _ h => h))
      clear o7 k7 hn7 R6 K6 l6
      go_wp2_with fail
      trace "LOOPE"
      have hB7 : B ≤ w7.heap.size := by have := K7.out.size; omega
      refine Code.wp_mono ?_ (sloopE w7 B A n cA l HH7.out.ents hB7 (fun x hx => ⟨(HH7.out.num x hx).1, (HH7.out.num x hx).2.1⟩) hn96 (enc tot.toNat ++ enc un.toNat ++ enc n) _ BS7.out (by omega) _ _ _ _ _ _ _ _ _ _ _ _ _ _ _ _ _ _ _ _ _ _ _ _ _ _ _ _ _ _ _ _ _ _ _ _ _ _ _ _ _ _ _ _ _ _ _ _ _ _ _ _ _ _ _ _ _ _ _ _ _ _ _ _ _ _ _ _ _ _ _ _ _ _ _ _ _ _ _ _ _ _ _ _ _ _ _ _ _ _ _ _ _ _ _ _ _ _ _ _ _)
      intro e a' w8 hex
      cases e <;> (first | exact hex.elim | skip)
      rotate_left
      · obtain ⟨⟨x, hx, hk⟩, k8, ⟨u6, u8, u50, u51, u52, u53, u54, u55, u56, u57, u58, u59, u60, u61, u62, u63, u64, u65, u66, u67, u68, u69, u70, u71, u72, u73, u74, rfl⟩⟩ := hex
        have HV : Hid (encErr l (Cmp.rowsL F i) = 4) := hide (by rw [HE1.out, if_pos (List.any_eq_true.2 ⟨x, hx, by simpa using hk⟩)])
        have K8 := hide (KX.out.trans (K7.out.trans k8))
        clear k8
        dsimp only
        go_wp2_with fail
        trace "RET"
        go_ret2
        exact ⟨none, 0, 0, by rw [HV.out]; rfl, by rw [HV.out]; rfl, by omega, by rw [HV.out]; exact Rd.zero rfl, K8.out⟩
      obtain ⟨rfl, hks, hle, v8, ⟨A8, n8, c8, rfl, hn8, r8, k8⟩, ⟨u2, u3, u8, u50, u51, u52, u53, u54, u55, u56, u57, u58, u59, u60, u61, u62, u63, u64, u65, u66, u67, u68, u69, u70, u71, u72, u73, u74, rfl⟩⟩ := hex
      have HV : Hid (encErr l (Cmp.rowsL F i) = 0) := hide (by
        rw [HE1.out, if_neg]
        intro he
        obtain ⟨x, hx, hp⟩ := List.any_eq_true.1 he
        have := hks x hx
        simp at hp; omega)
      have K8 := hide (K7.out.trans k8)
      have R8 := hide r8
      have t3 : w8.cell? ⟨gs, 3, none⟩ = some (.slice R i cR) := (B3r.out.kept K8.out (fun h => h)).cell 3
      have ew2 : IntKind.u64.wrap (i : Int) = i := by rw [IntKind.wrap_u64]; omega
      obtain ⟨L8, hL8⟩ : ∃ L8, L8 = enc tot.toNat ++ enc un.toNat ++ enc n ++ l.flatMap encEnt := ⟨_, rfl⟩
      rw [← hL8] at hle R8 hn8
      have HL8 := hide hL8
      have hl8 : L8.length ≤ 28840 + 1000 := by omega
      have hn8b : n8 ≤ 30000 := by omega
      clear hks hle r8 k8 K7 HH7 BS7 l7 t1 ew hL8 HE1 hn8
      dsimp only
      go_wp2_with fail
      trace "A4"
      refine (Varint.append_any L8 A8 n8 c8 _ w8 R8.out (Nat.le_refl _) (by omega) (i : Int) (by omega) (by omega)).mono ?_
      rintro e w9 ⟨A9, n9, c9, hn9, rfl, o9, k9⟩
      rw [Int.toNat_natCast] at o9 hn9
      have K9 := hide (K8.out.trans k9)
      have l9 : (L8 ++ enc i).length ≤ 30000 := by have h1 := (enc_len i).2; simp only [List.length_append]; omega
      have BS9 := hide (show BSt w9 (L8 ++ enc i) (.slice A9 n9 c9) w9 from ⟨A9, n9, c9, rfl, hn9, o9.rd (by omega), Keeps.refl _ _⟩)
      have t3 : w9.cell? ⟨gs, 3, none⟩ = some (.slice R i cR) := (B3r.out.kept K9.out (fun h => h)).cell 3
      have HH9 := hide (HHr.out.kept K9.out (fun _ _ h => h))
      clear o9 k9 hn9 R8 K8
      go_wp2_with fail
      trace "LOOPR"
      refine Code.wp_mono ?_ (sloopR w9 B R i cR F HH9.out.rows HH9.out.rrd HJ.out hm4 (L8 ++ enc i) _ BS9.out (by omega) _ _ _ _ _ _ _ _ _ _ _ _ _ _ _ _ _ _ _ _ _ _ _ _ _ _ _ _ _ _ _ _ _ _ _ _ _ _ _ _ _ _ _ _ _ _ _ _ _ _ _ _ _ _ _ _ _ _ _ _ _ _ _ _ _ _ _ _ _ _ _ _ _ _ _ _ _ _ _ _ _ _ _ _ _ _ _ _ _ _ _ _ _ _ _ _ _ _ _ _ _)
      intro e a' w10 hex
      cases e <;> (first | exact hex.elim | skip)
      obtain ⟨rfl, hle, v10, ⟨A10, n10, c10, rfl, hn10, r10, k10⟩, ⟨x10, x12, x84, x85, x86, x87, x88, x89, x90, x91, x92, x93, x94, x95, x96, x97, x98, x99, x100, x101, x102, x103, rfl⟩⟩ := hex
      have K10 := hide (KX.out.trans (K9.out.trans k10))
      have R10 := hide r10
      have hn10' := hide hn10
      have hl10 : n10 ≤ 100000 := by omega
      clear r10 k10 hle hn10
      dsimp only
      go_wp2_with fail
      trace "DONE"
      go_ret2
      have hE : L8 ++ enc i ++ (Cmp.rowsL F i).flatMap encRow = encAll tot un l (Cmp.rowsL F i) := by rw [HL8.out]; unfold encAll; rw [HLN.out, HML.out]
      refine ⟨A10, n10, c10, by rw [HV.out]; rfl, by rw [HV.out, if_pos rfl, ← hE]; exact hn10'.out, hl10, by rw [HV.out, if_pos rfl, ← hE]; exact R10.out, K10.out⟩
set_option maxRecDepth 100000 in
set_option maxHeartbeats 1000000 in
theorem rencode_any (w : World) (B : Nat) (tot un : Int) (A R : Option Addr) (n cA m cR : Nat) (l : List Ln) (F : RowsF) (h : SmIn w B A n l R m F) (hB : B ≤ w.heap.size) (ht : U tot) (hu : U un) :
    Calls Try.prog 27 #[smV tot A n cA un R m cR] w (Encd w tot un l (Cmp.rowsL F m)) := by
  obtain ⟨w2, hw2⟩ : ∃ w2, w2 = w.alloc (.cells (smC tot A n cA un R m cR) 45) := ⟨_, rfl⟩
  have k2 : Keeps (fun _ => False) w w2 := by rw [hw2]; exact (Keeps.refl _ _).alloc _
  have b3 : Blk w2 w.heap.size 45 (smC tot A n cA un R m cR) := by rw [hw2]; exact Blk.new _ _ _
  have HH := hide (h.kept k2 (fun _ _ h => h))
  have s0 : w2.cell? ⟨w.heap.size, 0, none⟩ = some (.int .u64 tot) := b3.cell 0
  have s1 : w2.cell? ⟨w.heap.size, 1, none⟩ = some (.slice A n cA) := b3.cell 1
  have s2 : w2.cell? ⟨w.heap.size, 2, none⟩ = some (.int .u64 un) := b3.cell 2
  have s3 : w2.cell? ⟨w.heap.size, 3, none⟩ = some (.slice R m cR) := b3.cell 3
  have B3 := hide b3
  have K2 := hide k2
  have HW2 := hide hw2
  have HLN := hide h.len
  have hml : (Cmp.rowsL F m).length = m := Cmp.rowsL_len F m
  have HML := hide hml
  have hn1 := h.n1
  have hm1 := h.m1
  clear hw2 k2 b3 h hml
  by_cases h1 : 96 < n ∨ 4 < m
  · have HV : Hid (encErr l (Cmp.rowsL F m) = 7) := hide (by unfold encErr; rw [HLN.out, HML.out, if_pos h1])
    rcases e1 : decide ((96 : Int) < (n : Int)) with _ | _
    · have e2 : decide ((4 : Int) < (m : Int)) = true := by simp at e1 ⊢; omega
      have e2' : (4 : Int) < (m : Int) := by simp at e2; omega
      clear h1 e2
      go_enter Try.func27, Try.ntmps27
      go_upto_region 1 with fail
      rw [← HW2.out]
      clear HW2
      generalize hgs : w.heap.size = gs at *
      go_wp2_with fail
      go_ret2
      exact ⟨none, 0, 0, by rw [HV.out]; rfl, by rw [HV.out]; rfl, by omega, by rw [HV.out]; exact Rd.zero rfl, K2.out⟩
    · clear h1
      go_enter Try.func27, Try.ntmps27
      go_upto_region 1 with fail
      rw [← HW2.out]
      clear HW2
      generalize hgs : w.heap.size = gs at *
      go_wp2_with fail
      go_ret2
      exact ⟨none, 0, 0, by rw [HV.out]; rfl, by rw [HV.out]; rfl, by omega, by rw [HV.out]; exact Rd.zero rfl, K2.out⟩
  have hn96 : n ≤ 96 := by omega
  have hm4 : m ≤ 4 := by omega
  have HE0 : Hid (encErr l (Cmp.rowsL F m) = if (Cmp.rowsL F m).any (fun r => decide (256 < r.length)) = true then 7 else if l.any (fun x => decide (255 < x.key.size)) = true then 4 else 0) := hide (by unfold encErr; rw [HLN.out, HML.out, if_neg h1])
  have e1 : ¬ ((96 : Int) < (n : Int)) := by omega
  have e2 : ¬ ((4 : Int) < (m : Int)) := by omega
  have HLn : Hid (∀ i, i < m → (F i).2.2.2.length = (F i).2.1) := hide (fun i hi => by have := (HH.out.rrd i hi).1.1; simpa using this)
  clear h1
  go_enter Try.func27, Try.ntmps27
  go_upto_region 1 with fail
  rw [← HW2.out]
  clear HW2
  generalize hgs : w.heap.size = gs at *
  go_wp2_with fail
  trace "LOOP0"
  go_loopw [26] (fun iv wr => ∃ i : Nat, i ≤ m ∧ iv = .int .i64 i ∧ Hid (∀ j, j < i → (F j).2.1 ≤ 256) ∧ Hid (Keeps (fun _ => False) w2 wr)) (fun iv _ => m - (intOf iv).toNat)
  case atStart => exact ⟨0, by omega, rfl, hide (fun j h => by omega), hide (Keeps.refl _ _)⟩
  case round =>
    obtain ⟨i, hi, rfl, HJ, KR⟩ := hrel
    by_cases hlt : i < m
    · have HLT : Hid (i + 1 ≤ m) := hlt
      obtain ⟨b, off, rfl, hbB, hc⟩ := (HH.out.rows.kept KR.out (fun _ _ h => h)).2 (by omega)
      have c0 := hc i (.slice (F i).1 (F i).2.1 (F i).2.2.1) (by simp [hlt])
      have hiI : (i : Int) < (m : Int) := by omega
      have hi0 : (0 : Int) ≤ (i : Int) := by omega
      obtain ⟨rl, hrl⟩ : ∃ rl, rl = (F i).2.1 := ⟨_, rfl⟩
      rw [← hrl] at c0
      have HRL := hide hrl
      have HI := hide hlt
      clear hc hrl
      by_cases hs : rl ≤ 256
      · have e4 : ¬ ((256 : Int) < (rl : Int)) := by omega
        have HS := hide hs
        clear hs
        go_wp2_with fail
        go_roundw
        case rel =>
          refine ⟨i + 1, HLT.out, by go_num, hide (fun j hj => ?_), KR⟩
          rcases Nat.lt_or_ge j i with h | h
          · exact HJ.out j h
          · obtain rfl : j = i := by omega
            rw [← HRL.out]; exact HS.out
        case measure => have := HLT.out; simp [intOf]; omega
      · have e4 : (256 : Int) < (rl : Int) := by omega
        have HV : Hid (encErr l (Cmp.rowsL F m) = 7) := hide (by rw [HE0.out, if_pos ((rowsL_any F m _).2 ⟨i, HI.out, by rw [HLn.out i HI.out, ← HRL.out]; simp; omega⟩)])
        clear hs
        go_wp2_with fail
        go_ret2
        exact ⟨none, 0, 0, by rw [HV.out]; rfl, by rw [HV.out]; rfl, by omega, by rw [HV.out]; exact Rd.zero rfl, K2.out.trans KR.out⟩
    · obtain rfl : i = m := by omega
      have HE1 : Hid (encErr l (Cmp.rowsL F i) = if l.any (fun x => decide (255 < x.key.size)) = true then 4 else 0) := hide (by
        rw [HE0.out, if_neg]
        intro he
        obtain ⟨j, hj, hp⟩ := (rowsL_any F i _).1 he
        rw [HLn.out j hj] at hp
        have := HJ.out j hj
        simp at hp; omega)
      have B3r := hide (B3.out.kept KR.out (fun h => h))
      have t0 : wr.cell? ⟨gs, 0, none⟩ = some (.int .u64 tot) := B3r.out.cell 0
      have HHr := hide (HH.out.kept KR.out (fun _ _ h => h))
      have KX := hide (K2.out.trans KR.out)
      obtain ⟨wx, rfl⟩ : ∃ wx : World, wx = wr := ⟨_, rfl⟩
      have hBx : B ≤ wx.heap.size := by have := KX.out.size; omega
      clear HE0 KR HH B3 K2
      go_wp2_with fail
      trace "A1"
      refine (Varint.rappend_any [] none 0 0 0 wx (Rd.zero rfl) (Nat.zero_le _) (by omega) tot ht.1 ht.2).mono ?_
      rintro e w5 ⟨A5, n5, c5, hn5, rfl, o5, k5⟩
      rw [List.nil_append] at o5 hn5
      have R5 := hide (o5.rd (by omega))
      have K5 := hide k5
      have l5 : n5 ≤ 10 := by have := (enc_len tot.toNat).2; omega
      have t2 : w5.cell? ⟨gs, 2, none⟩ = some (.int .u64 un) := (B3r.out.kept k5 (fun h => h)).cell 2
      clear o5 k5 hn5 t0
      go_wp2_with fail
      trace "A2"
      refine (Varint.rappend_any (enc tot.toNat) A5 n5 c5 _ w5 R5.out (Nat.le_refl _) (by omega) un hu.1 hu.2).mono ?_
      rintro e w6 ⟨A6, n6, c6, hn6, rfl, o6, k6⟩
      have R6 := hide (o6.rd (by omega))
      have K6 := hide (K5.out.trans k6)
      have l6 : n6 ≤ 20 := by have h1 := (enc_len tot.toNat).2; have h2 := (enc_len un.toNat).2; rw [hn6, List.length_append]; omega
      have t1 : w6.cell? ⟨gs, 1, none⟩ = some (.slice A n cA) := (B3r.out.kept K6.out (fun h => h)).cell 1
      have ew : IntKind.u64.wrap (n : Int) = n := by rw [IntKind.wrap_u64]; omega
      clear o6 k6 hn6 t2 R5 K5 l5
      go_wp2_with fail
      trace "A3"
      refine (Varint.rappend_any (enc tot.toNat ++ enc un.toNat) A6 n6 c6 _ w6 R6.out (Nat.le_refl _) (by omega) (n : Int) (by omega) (by omega)).mono ?_
      rintro e w7 ⟨A7, n7, c7, hn7, rfl, o7, k7⟩
      rw [Int.toNat_natCast] at o7 hn7
      have K7 := hide (K6.out.trans k7)
      have l7 : (enc tot.toNat ++ enc un.toNat ++ enc n).length ≤ 30 := by have h1 := (enc_len tot.toNat).2; have h2 := (enc_len un.toNat).2; have h3 := (enc_len n).2; simp only [List.length_append]; omega
      have BS7 := hide (show BSt w7 (enc tot.toNat ++ enc un.toNat ++ enc n) (.slice A7 n7 c7) w7 from ⟨A7, n7, c7, rfl, hn7, o7.rd (by omega), Keeps.refl _ _⟩)
      have t1 : w7.cell? ⟨gs, 1, none⟩ = some (.slice A n cA) := (B3r.out.kept K7.out (fun h => h)).cell 1
      have HH7 := hide (HHr.out.kept K7.out (fun _ _ h => h))
      clear o7 k7 hn7 R6 K6 l6
      go_wp2_with fail
      trace "LOOPE"
      have hB7 : B ≤ w7.heap.size := by have := K7.out.size; omega
      refine Code.wp_mono ?_ (rloopE w7 B A n cA l HH7.out.ents hB7 (fun x hx => ⟨(HH7.out.num x hx).1, (HH7.out.num x hx).2.1⟩) hn96 (enc tot.toNat ++ enc un.toNat ++ enc n) _ BS7.out (by omega) _ _ _ _ _ _ _ _ _ _ _ _ _ _ _ _ _ _ _ _ _ _ _ _ _ _ _ _ _ _ _ _ _ _ _ _ _ _ _ _ _ _ _ _ _ _ _ _ _ _ _ _ _ _ _ _ _ _ _ _ _ _ _ _ _ _ _ _ _ _ _ _ _ _ _ _ _ _ _ _ _ _ _ _ _ _ _ _ _ _ _ _ _ _ _ _ _ _ _ _ _)
      intro e a' w8 hex
      cases e <;> (first | exact hex.elim | skip)
      rotate_left
      · obtain ⟨⟨x, hx, hk⟩, k8, ⟨u6, u8, u50, u51, u52, u53, u54, u55, u56, u57, u58, u59, u60, u61, u62, u63, u64, u65, u66, u67, u68, u69, u70, u71, u72, u73, u74, rfl⟩⟩ := hex
        have HV : Hid (encErr l (Cmp.rowsL F i) = 4) := hide (by rw [HE1.out, if_pos (List.any_eq_true.2 ⟨x, hx, by simpa using hk⟩)])
        have K8 := hide (KX.out.trans (K7.out.trans k8))
        clear k8
        dsimp only
        go_wp2_with fail
        trace "RET"
        go_ret2
        exact ⟨none, 0, 0, by rw [HV.out]; rfl, by rw [HV.out]; rfl, by omega, by rw [HV.out]; exact Rd.zero rfl, K8.out⟩
      obtain ⟨rfl, hks, hle, v8, ⟨A8, n8, c8, rfl, hn8, r8, k8⟩, ⟨u2, u3, u8, u50, u51, u52, u53, u54, u55, u56, u57, u58, u59, u60, u61, u62, u63, u64, u65, u66, u67, u68, u69, u70, u71, u72, u73, u74, rfl⟩⟩ := hex
      have HV : Hid (encErr l (Cmp.rowsL F i) = 0) := hide (by
        rw [HE1.out, if_neg]
        intro he
        obtain ⟨x, hx, hp⟩ := List.any_eq_true.1 he
        have := hks x hx
        simp at hp; omega)
      have K8 := hide (K7.out.trans k8)
      have R8 := hide r8
      have t3 : w8.cell? ⟨gs, 3, none⟩ = some (.slice R i cR) := (B3r.out.kept K8.out (fun h => h)).cell 3
      have ew2 : IntKind.u64.wrap (i : Int) = i := by rw [IntKind.wrap_u64]; omega
      obtain ⟨L8, hL8⟩ : ∃ L8, L8 = enc tot.toNat ++ enc un.toNat ++ enc n ++ l.flatMap encEnt := ⟨_, rfl⟩
      rw [← hL8] at hle R8 hn8
      have HL8 := hide hL8
      have hl8 : L8.length ≤ 28840 + 1000 := by omega
      have hn8b : n8 ≤ 30000 := by omega
      clear hks hle r8 k8 K7 HH7 BS7 l7 t1 ew hL8 HE1 hn8
      dsimp only
      go_wp2_with fail
      trace "A4"
      refine (Varint.rappend_any L8 A8 n8 c8 _ w8 R8.out (Nat.le_refl _) (by omega) (i : Int) (by omega) (by omega)).mono ?_
      rintro e w9 ⟨A9, n9, c9, hn9, rfl, o9, k9⟩
      rw [Int.toNat_natCast] at o9 hn9
      have K9 := hide (K8.out.trans k9)
      have l9 : (L8 ++ enc i).length ≤ 30000 := by have h1 := (enc_len i).2; simp only [List.length_append]; omega
      have BS9 := hide (show BSt w9 (L8 ++ enc i) (.slice A9 n9 c9) w9 from ⟨A9, n9, c9, rfl, hn9, o9.rd (by omega), Keeps.refl _ _⟩)
      have t3 : w9.cell? ⟨gs, 3, none⟩ = some (.slice R i cR) := (B3r.out.kept K9.out (fun h => h)).cell 3
      have HH9 := hide (HHr.out.kept K9.out (fun _ _ h => h))
      clear o9 k9 hn9 R8 K8
      go_wp2_with fail
      trace "LOOPR"
      refine Code.wp_mono ?_ (rloopR w9 B R i cR F HH9.out.rows HH9.out.rrd HJ.out hm4 (L8 ++ enc i) _ BS9.out (by omega) _ _ _ _ _ _ _ _ _ _ _ _ _ _ _ _ _ _ _ _ _ _ _ _ _ _ _ _ _ _ _ _ _ _ _ _ _ _ _ _ _ _ _ _ _ _ _ _ _ _ _ _ _ _ _ _ _ _ _ _ _ _ _ _ _ _ _ _ _ _ _ _ _ _ _ _ _ _ _ _ _ _ _ _ _ _ _ _ _ _ _ _ _ _ _ _ _ _ _ _ _)
      intro e a' w10 hex
      cases e <;> (first | exact hex.elim | skip)
      obtain ⟨rfl, hle, v10, ⟨A10, n10, c10, rfl, hn10, r10, k10⟩, ⟨x10, x12, x84, x85, x86, x87, x88, x89, x90, x91, x92, x93, x94, x95, x96, x97, x98, x99, x100, x101, x102, x103, rfl⟩⟩ := hex
      have K10 := hide (KX.out.trans (K9.out.trans k10))
      have R10 := hide r10
      have hn10' := hide hn10
      have hl10 : n10 ≤ 100000 := by omega
      clear r10 k10 hle hn10
      dsimp only
      go_wp2_with fail
      trace "DONE"
      go_ret2
      have hE : L8 ++ enc i ++ (Cmp.rowsL F i).flatMap encRow = encAll tot un l (Cmp.rowsL F i) := by rw [HL8.out]; unfold encAll; rw [HLN.out, HML.out]
      refine ⟨A10, n10, c10, by rw [HV.out]; rfl, by rw [HV.out, if_pos rfl, ← hE]; exact hn10'.out, hl10, by rw [HV.out, if_pos rfl, ← hE]; exact R10.out, K10.out⟩
end Go.Proofs.Ytaiopdipldaimaa
