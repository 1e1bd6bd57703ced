/-
  The reference's bytes of an event and of a frame: of few short events; no error.
-/
import Derived.Test.YtmbmlkllhcgkgaaEv3
import Derived.Test.YtmbmlkllhcgkgaaVarintW
import Derived.Deep.RegionHeld3
set_option linter.unusedVariables false
set_option linter.unusedSimpArgs false
namespace Go.Proofs.Ytmbmlkllhcgkgaa
open Go.RowKit
open Vp

/-- some bytes, and no error -/
def SomeBytes (N : Nat) (w : World) (e : Ending) (w' : World) : Prop :=
  ∃ (A : Option Addr) (n c : Nat) (l : List UInt8), e = .returned (.tuple #[.slice A n c, .int .i64 0]) ∧ n ≤ N ∧ Own w' w.heap.size 5 1 A n c (l.map by8) ∧ Keeps (fun _ => False) w w'

section
variable {P : Program}
theorem wp_run {o : Oper} {a : Act} {K : Act → World → Prop} {Q : Exit → Act → World → Prop} {w w' : World} {v s' x' : Value} (s x : Operand) (t t2 : TypeId)
    (ho : o.op = .call { callee := .builtin .append, args := #[s, x], argTypes := #[t, t2] }) (hs : a.eval s = s') (hx : a.eval x = x')
    (hrun : (Builtin.append_ #[t, t2] o.type #[s', x']).run P w = .ok v w') (h : K (a.put o.dst v) w') : o.wp P a w K Q := by
  unfold Oper.wp execOp
  simp only [ho, resolve, invoke, builtin, Sem.run_bind, Sem.run_pure, Result.andThen_ok, List.map_toArray, List.map_cons, List.map_nil, hs, hx, hrun]
  exact h
end
/-- 'append(b, s...)', s a string, in a region that draws its order -/
theorem step_app_text {ops : Array Oper} {o : Oper} {a : Act} {K : Act → World → Prop} {Q : Exit → Act → World → Prop} {F : Prop} (w : World) (hgd : o.guard = none) (s x : Operand)
    (ho : o.op = .call { callee := .builtin .append, args := #[s, x], argTypes := #[23, 9] })
    (base : Nat) {A : Option Addr} {n c : Nat} (l : List UInt8) (hs : a.eval s = .slice A n c) (hown : Own w base 5 1 A n c (l.map by8))
    (b : ByteArray) (hx : a.eval x = .string b) (hb : b.size ≤ 35184372088832) (hn : n ≤ 35184372088832) (hbase : base ≤ w.heap.size)
    (h : ∀ A' c' w', Own w' base 5 1 A' (n + b.size) c' ((l ++ b.data.toList).map by8) → Keeps (inB A) w w' → (∀ k, inB A' k → inB A k ∨ w.heap.size ≤ k) → K (a.put o.dst (.slice A' (n + b.size) c')) w') :
    if Region.wanted o (yielded ops a.tmps) = true then Oper.wp Try.prog o a w K Q else F := by
  have hw : Region.wanted o (yielded ops a.tmps) = true := by simp [Region.wanted, hgd]
  rw [if_pos hw]
  have hi : (Try.prog.info? 5).map (fun i => (i.zero, i.size, i.bytes)) = some (some (.int .u8 0), 1, 1) := by kernel_rfl
  obtain ⟨i, h1, h2, h3, h4⟩ := info_parts hi
  obtain ⟨A', c', w', hrun, hw⟩ := apps_run (P := Try.prog) w 23 9 o.type 5 i (.int .u8 0) b Try.underlying23 Try.underlying9 h1 h2 h3 rfl (by omega) A n c (l.map by8) (hown.base_le (Nat.zero_le _)) (by simp only [maxLen]; omega) (by rw [h4]; omega) (by rw [h4]; omega)
  obtain ⟨k1, k2, k3⟩ := own_of_ways hown hbase (by simp) hw
  rw [← List.map_append] at k1
  exact wp_run s x _ _ ho hs hx hrun (h A' c' w' k1 k2 k3)

/-- the relation of the loop over tags -/
def TagRel (w : World) (n : Nat) (j : Nat) (bv : Value) (X : Nat) (cells : Array Value) (wr : World) : Prop :=
  ∃ (A : Option Addr) (k c : Nat) (l : List UInt8), bv = .slice A k c ∧ k ≤ 30 + 180 * j ∧ Own wr w.heap.size 5 1 A k c (l.map by8) ∧ Blk wr X 62 cells ∧ Keeps (fun _ => False) w wr

set_option maxRecDepth 100000 in
set_option maxHeartbeats 1000000 in
theorem revent_any (A : Option Addr) (n c B : Nat) (xs : List Value) (tm wt : Int) (w : World) (hr : Rd w B A 2 n xs) (hB : B ≤ w.heap.size) (ht : Texts 80 xs) (hn : n ≤ 3) (t0 : 0 ≤ tm) (t1 : tm ≤ 1000) (y0 : 0 ≤ wt) (y1 : wt < 18446744073709551616) :
    Calls Try.prog 28 #[.agg #[.slice A n c, .int .i64 tm, .int .u64 wt]] w (SomeBytes 600 w) := by
  have HR := hide hr
  have HT := hide ht
  clear hr ht
  have kA := hide ((Keeps.refl (fun _ => False) w).alloc (.cells #[.slice A n c, .int .i64 tm, .int .u64 wt] 62))
  have bA := Blk.new w 62 #[.slice A n c, .int .i64 tm, .int .u64 wt]
  obtain ⟨⟨c10, c11, c12⟩, _, hXl⟩ := bA.three
  have BA := hide bA
  clear bA
  go_enter Try.func28, Try.ntmps28
  go_wp2_with fail
  refine (Varint.rappend_any [] none 0 0 0 _ (Rd.zero rfl) (by omega) (by omega) tm (by omega) (by omega)).mono ?_
  rintro e w1 ⟨A1, n1, c1, hn1, rfl, o1, k1⟩
  rw [List.nil_append] at o1 hn1
  have hb1 : n1 ≤ 10 := by have := enc_len tm.toNat; omega
  have HO1 := hide (o1.rd (by omega))
  have K1 := hide (kA.out.trans k1)
  have bA := BA.out.kept k1 (fun h => h)
  obtain ⟨⟨c20, c21, c22⟩, _, hXl1⟩ := bA.three
  have B1 := hide bA
  clear o1 k1 hn1 bA c10 c11 c12 hXl BA kA
  go_wp2_with fail
  refine (Varint.rappend_any _ A1 n1 c1 _ _ HO1.out (by omega) (by omega) wt (by omega) (by omega)).mono ?_
  rintro e w2 ⟨A2, n2, c2, hn2, rfl, o2, k2⟩
  have hb2 : n2 ≤ 20 := by have := enc_len wt.toNat; have := HO1.out.1; simp at this; simp at hn2; omega
  have HO2 := hide (o2.rd (by omega))
  have K2 := hide (K1.out.trans k2)
  have bA := B1.out.kept k2 (fun h => h)
  obtain ⟨⟨c30, c31, c32⟩, _, hXl2⟩ := bA.three
  have B2 := hide bA
  clear o2 k2 hn2 bA c20 c21 c22 hXl1 B1 K1 HO1
  go_wp2_with fail
  refine (Varint.rappend_any _ A2 n2 c2 _ _ HO2.out (by omega) (by omega) (n : Int) (by omega) (by omega)).mono ?_
  rintro e w3 ⟨A3, n3, c3, hn3, rfl, o3, k3⟩
  have hb3 : n3 ≤ 30 := by have := enc_len n; have := HO2.out.1; simp at this; rw [Int.toNat_natCast] at hn3; simp at hn3; omega
  have K3 := hide (K2.out.trans k3)
  have O3 := hide (o3.base_le K2.out.size)
  have bA := B2.out.kept k3 (fun h => h)
  obtain ⟨⟨c40, c41, c42⟩, _, hXl3⟩ := bA.three
  have B3 := hide bA
  generalize enc tm.toNat ++ enc wt.toNat ++ enc (n : Int).toNat = l3 at *
  clear o3 k3 hn3 bA c30 c31 c32 hXl2 B2 K2 HO2
  go_wp2_with fail
  go_loopw [4, 36] (fun bv iv wr => ∃ (j : Nat) (A : Option Addr) (k c : Nat) (l : List UInt8), j ≤ n ∧ iv = .int .i64 j ∧ bv = .slice A k c ∧ k ≤ 30 + 180 * j ∧ Own wr w.heap.size 5 1 A k c (l.map by8) ∧ Keeps (fun _ => False) w wr) (fun _ iv _ => n - (intOf iv).toNat)
  case atStart => exact ⟨0, A3, n3, c3, _, by omega, rfl, rfl, by omega, O3.out, K3.out⟩
  case round =>
    obtain ⟨j, A4, k4, c4, l4, hj, rfl, rfl, hk4, o4, kp⟩ := hrel
    have O4 := hide o4
    have KP := hide kp
    have hs := kp.size
    clear c40 c41 c42 hXl3 B3 O3 K3 o4 kp
    by_cases hlt : j < n
    · have hlx := HR.out.1
      obtain ⟨s, hs0, hs1⟩ := HT.out.at_ (j * 2) (by omega)
      obtain ⟨t, ht0, ht1⟩ := HT.out.at_ (j * 2 + 1) (by omega)
      obtain ⟨b, off, rfl, hbB, hcell⟩ := (HR.out.kept KP.out (fun _ _ h => h)).2 (by omega)
      have f1 := hcell _ _ hs0
      have f2 := hcell _ _ ht0
      rw [← Nat.add_assoc] at f2
      have hltI : (j : Int) < (n : Int) := by omega
      have z1 : (s.size : Int) ≤ 80 := by omega
      have z2 : (t.size : Int) ≤ 80 := by omega
      clear hlx hs0 ht0 hcell
      go_wp2_with fail
      have kA := (Keeps.refl (fun _ => False) wr).alloc (.cells #[.string s, .string t] 68)
      have O5 := hide (O4.out.kept kA (fun _ _ h => h))
      have KP5 := hide (KP.out.trans kA)
      have bt := Blk.new wr 68 #[.string s, .string t]
      obtain ⟨⟨e0, e1⟩, _, hGl⟩ := bt.two
      have BT := hide bt
      clear kA bt O4 KP f1 f2
      generalize wr.alloc (.cells #[.string s, .string t] 68) = W at *
      generalize wr.heap.size = G at *
      have hw6 : IntKind.u64.wrap (s.size : Int) = s.size := by rw [IntKind.wrap_u64]; omega
      go_region_held3 (fun w' => w'.cell? ⟨G, 0, none⟩ = some (.string s) ∧ w'.cell? ⟨G, 1, none⟩ = some (.string t)) (first | go_keep | (exact ⟨by assumption, by assumption⟩)) (first
        | (go_at_call 16; refine (Varint.rappend_any l4 A4 k4 c4 _ _ (O5.out.rd (by omega)).drew (Nat.le_refl _) (by omega) (s.size : Int) (by omega) (by omega)).mono ?_; rintro e w5 ⟨A5, n5, c5, hn5, rfl, o5, k5⟩; have q0 := k5.cell_some (p := ⟨G, 0, none⟩) e0 (fun h => h); have q1 := k5.cell_some (p := ⟨G, 1, none⟩) e1 (fun h => h); have hszA := KP5.out.size; have oA : Own w5 w.heap.size 5 1 A5 n5 c5 _ := o5.base_le hszA; have OA := hide oA; clear oA hszA; have KA := hide ((KP5.out.drew).trans k5); have BA := hide (BT.out.drew.kept k5 (fun h => h)); have hNA : n5 ≤ k4 + 10 := (by have h9 := enc_len s.size; have h8 := O5.out.len; simp only [Int.toNat_natCast, List.length_map, List.length_append] at hn5 h8; omega); clear o5 k5 hn5)
        | (refine step_app_text _ (by rfl) (.tmp 55) (.tmp 57) (by rfl) w.heap.size _ (by rfl) OA.out s (by rfl) (by omega) (by omega) (Keeps.size KA.out) ?_; intro A6 c6 V6 o6 k6 hA6; have d60 := k6.cell_some (p := ⟨G, 0, none⟩) q0 (fun h => (OA.out.ne_blk BA.out (by decide) h) rfl); have d61 := k6.cell_some (p := ⟨G, 1, none⟩) q1 (fun h => (OA.out.ne_blk BA.out (by decide) h) rfl); have B6 := hide (BA.out.kept k6 (fun h => (OA.out.ne_blk BA.out (by decide) h) rfl)); have K6 := hide (KA.out.step k6 (fun b hb h => by have := OA.out.inB h; omega)); have O6 := hide o6; have hl6 := B6.out.lt; clear o6 k6 hA6))
      clear hw6
      have hk6b : n5 + s.size ≤ 120 + 180 * j := by omega
      generalize n5 + s.size = k6 at *
      trace "SECOND"
      go_wp2_with fail
      have hw7 : IntKind.u64.wrap (t.size : Int) = t.size := by rw [IntKind.wrap_u64]; omega
      go_region_held3 (fun w' => w'.cell? ⟨G, 0, none⟩ = some (.string s) ∧ w'.cell? ⟨G, 1, none⟩ = some (.string t)) (first | go_keep | (exact ⟨by assumption, by assumption⟩)) (first
        | (go_at_call 16; refine (Varint.rappend_any _ A6 k6 c6 _ _ (O6.out.rd (by omega)).drew (Nat.le_refl _) (by omega) (t.size : Int) (by omega) (by omega)).mono ?_; rintro e w5 ⟨A5, n5, c5, hn5, rfl, o5, k5⟩; have q0 := k5.cell_some (p := ⟨G, 0, none⟩) d60 (fun h => h); have q1 := k5.cell_some (p := ⟨G, 1, none⟩) d61 (fun h => h); have hszA := K6.out.size; have oA : Own w5 w.heap.size 5 1 A5 n5 c5 _ := o5.base_le hszA; have OA := hide oA; clear oA hszA; have KA := hide ((K6.out.drew).trans k5); have BA := hide (B6.out.drew.kept k5 (fun h => h)); have hNA : n5 ≤ k6 + 10 := (by have h9 := enc_len t.size; have h8 := O6.out.len; simp only [Int.toNat_natCast, List.length_map, List.length_append] at hn5 h8; omega); clear o5 k5 hn5)
        | (refine step_app_text _ (by rfl) (.tmp 64) (.tmp 66) (by rfl) w.heap.size _ (by rfl) OA.out t (by rfl) (by omega) (by omega) (Keeps.size KA.out) ?_; intro A7 c7 V7 o7 k7 hA7; have d70 := k7.cell_some (p := ⟨G, 0, none⟩) q0 (fun h => (OA.out.ne_blk BA.out (by decide) h) rfl); have d71 := k7.cell_some (p := ⟨G, 1, none⟩) q1 (fun h => (OA.out.ne_blk BA.out (by decide) h) rfl); have B7 := hide (BA.out.kept k7 (fun h => (OA.out.ne_blk BA.out (by decide) h) rfl)); have K7 := hide (KA.out.step k7 (fun b hb h => by have := OA.out.inB h; omega)); have O7 := hide o7; have hl7 := B7.out.lt; clear o7 k7 hA7))
      clear hw7
      trace "ROUNDEND"
      go_wp2_with fail
      go_roundw
      case rel => exact ⟨j + 1, _, _, _, _, by omega, by go_num, rfl, by omega, O7.out, K7.out⟩
      case measure => simp [intOf]; omega
    · go_wp2_with fail
      go_ret2
      exact ⟨A4, k4, c4, l4, rfl, by omega, O4.out, KP.out⟩
end Go.Proofs.Ytmbmlkllhcgkgaa
