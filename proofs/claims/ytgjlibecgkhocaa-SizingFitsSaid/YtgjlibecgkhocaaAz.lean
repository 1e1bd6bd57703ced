/-
  arena.Usage; the deck's Classes. No conditions beyond those of the statement.
-/
import Derived.Test.YtgjlibecgkhocaaAy
set_option linter.unusedVariables false
set_option linter.unusedSimpArgs false
namespace Go.Proofs.Ytgjlibecgkhocaa
open Go.RowKit Cfp

def Cls.nil : Cls := ⟨0, 0, none, 0, [], 0⟩
/-- the bytes in use of the first i classes -/
def bytesN (l : List Cls) : Nat → Int
  | 0 => 0
  | i + 1 => bytesN l i + (l.getD i Cls.nil).live * (l.getD i Cls.nil).size
/-- bounds of an arena's classes -/
def Small (s : Ar) : Prop := s.cls.length ≤ 8 ∧ ∀ (i : Nat) (c : Cls), s.cls[i]? = some c → 0 ≤ c.live ∧ c.live ≤ 65536 ∧ 1 ≤ c.size ∧ c.size ≤ 4096
theorem bytesN_bd (s : Ar) (h : Small s) : ∀ i, i ≤ s.cls.length → 0 ≤ bytesN s.cls i ∧ bytesN s.cls i ≤ 268435456 * i
  | 0, _ => by simp [bytesN]
  | i + 1, hi => by
    have h1 := bytesN_bd s h i (by omega)
    obtain ⟨c, hc⟩ : ∃ c, s.cls[i]? = some c := ⟨s.cls[i]'(by omega), by simp⟩
    have h2 := h.2 i c hc
    have e : s.cls.getD i Cls.nil = c := by simp [List.getD, hc]
    have p1 : 0 ≤ c.live * c.size := Int.mul_nonneg h2.1 (by omega)
    have p2 : c.live * c.size ≤ 65536 * 4096 := Int.mul_le_mul h2.2.1 h2.2.2.2 (by omega) (by omega)
    rw [bytesN, e]
    push_cast
    omega
def livesC (l : List Cls) : List Value := l.map (fun c => .int .i64 c.live)
theorem elemInt : ElemOf Try.prog 22 3 1 8 := ElemOf.mk' (z := .int .i64 0) Try.underlying22 (by kernel_rfl) rfl (by omega)

/-- what Usage gives -/
def Usages (w : World) (s : Ar) (e : Ending) (w' : World) : Prop :=
  ∃ D m, e = .returned (.agg #[.slice D s.cls.length m, .int .i64 (bytesN s.cls s.cls.length), .int .i64 s.faults]) ∧ Own w' w.heap.size 3 1 D s.cls.length m (livesC s.cls) ∧ Keeps (fun _ => False) w w'
set_option maxRecDepth 100000 in
set_option maxHeartbeats 2000000 in
theorem usage_any (B a : Nat) (s : Ar) (w : World) (h : IsAr w B a s) (hs : Small s) :
    Calls Try.prog 35 #[.pointer (some ⟨a, 0, none⟩)] w (Usages w s) := by
  have k1 := (Keeps.refl (fun _ => False) w).alloc (.cells #[.slice none 0 0, .int .i64 0, .int .i64 0] 62)
  have b1 := Blk.new w 62 #[.slice none 0 0, .int .i64 0, .int .i64 0]
  have k2 := k1.alloc (.cells #[.slice none 0 0, .int .i64 0, .int .i64 s.faults] 62)
  have b2 := Blk.new_at (w.alloc (.cells #[.slice none 0 0, .int .i64 0, .int .i64 0] 62)) 62 #[.slice none 0 0, .int .i64 0, .int .i64 s.faults] (w.heap.size + 1) (by simp)
  have b12 := b1.alloc (.cells #[.slice none 0 0, .int .i64 0, .int .i64 s.faults] 62)
  have H1 := hide (h.quiet k1)
  have H2 := hide (h.quiet k2)
  have K2 := hide k2
  have B2 := hide b2
  have B1 := hide b12
  have c9 := IsArH.faults_cell H1.out
  have c0 := IsArH.classes_cell H2.out
  have HS := hide hs
  obtain ⟨n, hn⟩ : ∃ n, n = s.cls.length := ⟨_, rfl⟩
  obtain ⟨CA, hCA⟩ : ∃ CA, CA = s.CA := ⟨_, rfl⟩
  rw [← hn, ← hCA] at c0
  have HCA := hide hCA
  clear hCA
  have hn8 : n ≤ 8 := by rw [hn]; exact hs.1
  have HN := hide hn
  have ha : a < w.heap.size := h.blk.lt
  have HA := hide h
  clear h hs k1 b1 k2 b2 b12 H1 hn
  unfold Usages
  rw [← HN.out]
  go_enter Try.func35, Try.ntmps35
  go_wp2_with fail
  trace "LOOP"
  generalize (w.alloc _).alloc _ = w2 at *
  have hz2 : w.heap.size + 1 < w2.heap.size := B2.out.lt
  go_loopw [5, 19] (fun _ iv wr => ∃ (i : Nat) (D : Option Addr) (m : Nat), i ≤ n ∧ iv = .int .i64 i ∧ Hid (Own wr (w.heap.size + 2) 3 1 D i m (livesC (s.cls.take i))) ∧ Hid (Blk wr (w.heap.size + 1) 62 #[.slice D i m, .int .i64 (bytesN s.cls i), .int .i64 s.faults]) ∧ Hid (Blk wr w.heap.size 62 #[.slice none 0 0, .int .i64 0, .int .i64 0]) ∧ Hid (Keeps (fun _ => False) w wr)) (fun _ iv _ => n - (intOf iv).toNat)
  case atStart => exact ⟨0, none, 0, by omega, rfl, hide (Own.nil _ _ _ _), B2, B1, K2⟩
  case round =>
    obtain ⟨i, D, m, hi, rfl, HO, HX, HR, KR⟩ := hrel
    clear B2 B1
    by_cases hlt : i < n
    · have HLT : Hid (i + 1 ≤ n) := hlt
      have hil : i < s.cls.length := by rw [← HN.out]; exact hlt
      obtain ⟨c, hc⟩ : ∃ c, s.cls[i]? = some c := ⟨s.cls[i]'hil, by simp⟩
      have hcb := HS.out.2 i c hc
      have hbb := bytesN_bd s HS.out i (by omega)
      have HBN : Hid (bytesN s.cls (i + 1) = bytesN s.cls i + c.live * c.size) := by show _ = _; simp [bytesN, List.getD, hc]
      have HLV : Hid (livesC (s.cls.take (i + 1)) = livesC (s.cls.take i) ++ [.int .i64 c.live]) := by show _ = _; rw [List.take_add_one, hc]; simp [livesC]
      have p1 : 0 ≤ c.live * c.size := Int.mul_nonneg hcb.1 (by omega)
      have p2 : c.live * c.size ≤ 65536 * 4096 := Int.mul_le_mul hcb.2.1 hcb.2.2.2 (by omega) (by omega)
      obtain ⟨pr, hpr⟩ : ∃ pr, pr = c.live * c.size := ⟨_, rfl⟩
      have wm : IntKind.i64.wrap (c.live * c.size) = pr := by rw [hpr]; exact IntWalk.i64_in _ (by omega)
      rw [← hpr] at p1 p2 HBN
      obtain ⟨bn, hbn⟩ : ∃ bn, bn = bytesN s.cls i := ⟨_, rfl⟩
      rw [← hbn] at HX HBN hbb
      have wa : IntKind.i64.wrap (bn + pr) = bn + pr := IntWalk.i64_in _ (by omega)
      have ow := (HA.out.quiet KR.out).own
      rw [← HCA.out, ← HN.out] at ow
      obtain ⟨C, rfl, _⟩ := ow.some_ (by omega)
      obtain ⟨g0, g1, g2, g3⟩ := clsCs_at hc
      have d0 := ow.cell (i * 4) (by omega)
      have d1 := ow.cell (i * 4 + 1) (by omega)
      have d2 := ow.cell (i * 4 + 2) (by omega)
      have d3 := ow.cell (i * 4 + 3) (by omega)
      rw [g0] at d0
      rw [g1] at d1
      rw [g2] at d2
      rw [g3] at d3
      obtain ⟨⟨x0, x1, x2⟩, ⟨fx0, fx1, fx2⟩, hxz⟩ := HX.out.three
      have hiI : (i : Int) < (n : Int) := by omega
      have hi0 : (0 : Int) ≤ (i : Int) := by omega
      have hzr : w.heap.size + 1 < wr.heap.size := hxz
      have hwb : Hid (Blk (wr.alloc (.cells #[.int .i64 c.size, .int .i64 c.count, .slice c.SA c.slots.length c.sc, .int .i64 c.live] 89)) wr.heap.size 89 #[.int .i64 c.size, .int .i64 c.count, .slice c.SA c.slots.length c.sc, .int .i64 c.live]) := hide (Blk.new _ _ _)
      have kb := (Keeps.refl (fun _ => False) wr).alloc (.cells #[.int .i64 c.size, .int .i64 c.count, .slice c.SA c.slots.length c.sc, .int .i64 c.live] 89)
      have HO1 := hide (HO.out.kept kb (fun _ _ h => h))
      have HX1 := hide (HX.out.kept kb (fun h => h))
      have HR1 := hide (HR.out.kept kb (fun h => h))
      have KR1 := hide (KR.out.trans kb)
      clear g0 g1 g2 g3 ow hc hil hpr hbn kb HO HX HR
      go_upto_region 7 with fail
      trace "R7"
      generalize wr.alloc _ = w5 at *
      generalize wr.heap.size = Xc at *
      have hX5 : w.heap.size + 1 < w5.heap.size := HX1.out.lt
      have hXc5 : Xc < w5.heap.size := hwb.out.lt
      obtain ⟨⟨x0, x1, x2⟩, ⟨fx0, fx1, fx2⟩, hxz⟩ := HX1.out.three
      have y3 := hwb.out.cell 3
      simp only [List.getElem?_toArray, List.getElem?_cons_zero, List.getElem?_cons_succ] at y3
      go_upto_region 8 with (at_builtin; refine wpList_app _ elemInt rfl (.tmp 24) (.tmp 27) rfl (w.heap.size + 2) _ rfl (HO1.out.kept ((Keeps.refl (fun _ => False) w5).alloc _) (fun _ _ h => h)) _ (m := 1) [.int .i64 c.live] rfl (by exact Blk.rd (xs := [.int .i64 c.live]) (Blk.new_at _ _ _ _ (by simp)) rfl) (by simp [Value.oneCell']) (by simp only [maxLen]; omega) (by omega) (by simp; omega) ?_; intro A7 c7 w7 o7 k7 hA7; have hkA := (Keeps.refl (fun _ => False) w5).alloc (.cells #[.int .i64 c.live] 3); have HX7 := hide ((HX1.out.kept hkA (fun h => h)).kept k7 (fun h => by have := HO1.out.inB h; omega)); have HR7 := hide ((HR1.out.kept hkA (fun h => h)).kept k7 (fun h => by have := HO1.out.inB h; omega)); have HC7 := hide ((hwb.out.kept hkA (fun h => h)).kept k7 (fun h => HO1.out.ne_blk hwb.out (by decide) h rfl)); have f7 := HX7.out.frozen 0; have q7 := HX7.out.cell 0; have O7 := hide o7; have K7 := hide ((KR1.out.trans hkA).step k7 (fun b hb h => by have := HO1.out.inB h; omega)); clear o7 k7 hA7 hkA)
      trace "R8"
      have kS := keepsOne w7 (w.heap.size + 1) 0 (.slice A7 (i + 1) c7)
      have HX8 := hide (HX7.out.set 0 (.slice A7 (i + 1) c7))
      have HC8 := hide (HC7.out.kept kS (fun e => absurd (blk_type HC7.out (e ▸ HX7.out)) (by decide)))
      have HR8 := hide (HR7.out.kept kS (by omega))
      have O8 := hide (O7.out.kept kS (fun b hb e => by have := O7.out.inB hb; omega))
      have K8 := hide (K7.out.step kS (fun b hb e => by omega))
      clear HX7 HC7 HR7 O7 K7 kS f7 q7 x0 x1 x2 fx0 fx1 fx2 hxz y3 HO1 HX1 HR1 KR1 hwb
      generalize w7.setCell _ _ = w8 at *
      obtain ⟨⟨x0, x1, x2⟩, ⟨fx0, fx1, fx2⟩, hxz⟩ := (show Blk w8 (w.heap.size + 1) 62 #[.slice A7 (i + 1) c7, .int .i64 bn, .int .i64 s.faults] from HX8.out).three
      have y3 := HC8.out.cell 3
      have y0 := HC8.out.cell 0
      simp only [List.getElem?_toArray, List.getElem?_cons_zero, List.getElem?_cons_succ] at y3 y0
      go_wp2_with fail
      trace "RND"
      go_roundw
      case rel =>
        have kT := keepsOne w8 (w.heap.size + 1) 1 (.int .i64 (bn + pr))
        refine ⟨i + 1, A7, c7, HLT.out, by go_num, ?_, ?_, hide (HR8.out.kept kT (by omega)), hide (K8.out.step kT (fun b hb e => by omega))⟩
        · rw [HLV.out]
          exact O8.out.kept kT (fun b hb e => by have := O8.out.inB hb; omega)
        · rw [HBN.out]
          exact HX8.out.set 1 (.int .i64 (bn + pr))
      case measure => have := HLT.out; simp [intOf]; omega
    · obtain rfl : i = n := by omega
      obtain ⟨⟨x0, x1, x2⟩, ⟨fx0, fx1, fx2⟩, hxz⟩ := HX.out.three
      obtain ⟨⟨r0, r1, r2⟩, ⟨fr0, fr1, fr2⟩, hrz⟩ := HR.out.three
      have hrr := hide (HR.out.set3 (.slice D i m) (.int .i64 (bytesN s.cls i)) (.int .i64 s.faults))
      have hkk := hide (KR.out.step (keeps3 wr w.heap.size (.slice D i m) (.int .i64 (bytesN s.cls i)) (.int .i64 s.faults)) (fun b hb e => by omega))
      have o9 := hide (HO.out.kept (keeps3 wr w.heap.size (.slice D i m) (.int .i64 (bytesN s.cls i)) (.int .i64 s.faults)) (fun b hb e => by have := HO.out.inB hb; omega))
      go_wp2_with fail
      trace "END"
      generalize ((wr.setCell _ _).setCell _ _).setCell _ _ = w9 at *
      have z0 := hrr.out.cell 0
      have z1 := hrr.out.cell 1
      have z2 := hrr.out.cell 2
      refine bodyPost_ret (v := .agg #[.slice D i m, .int .i64 (bytesN s.cls i), .int .i64 s.faults]) (by simp [results, Try.results35, go_sem, z0, z1, z2]) rfl ?_
      refine ⟨D, m, rfl, ?_, hkk.out⟩
      have h1 := o9.out.base_le (show w.heap.size ≤ w.heap.size + 2 by omega)
      rw [HN.out, List.take_length] at h1
      rw [HN.out]
      exact h1

/-- ascending classes that are grown at the end -/
theorem cf_snoc : ∀ (l : List (Int × Int)) (p : Int) (x : Int × Int), classesFrom p l = 0 → (∀ c ∈ l, c.1 < x.1) → p < x.1 → ¬ (x.1 < 1 ∨ 4096 < x.1 ∨ x.2 < 0 ∨ 65536 < x.2) → classesFrom p (l ++ [x]) = 0
  | [], p, x, _, _, hp, hx => by
    rw [List.nil_append, cf_cons, if_neg hx, if_neg (by omega)]
    rfl
  | d :: l, p, x, h, hl, hp, hx => by
    rw [cf_cons] at h
    rw [List.cons_append, cf_cons]
    split at h
    · simp at h
    · next h1 =>
      rw [if_neg h1]
      split at h
      · simp at h
      · next h2 =>
        rw [if_neg h2]
        exact cf_snoc l d.1 x h (fun c hc => hl c (List.mem_cons_of_mem _ hc)) (hl d (List.mem_cons_self ..)) hx
theorem elemClass : ElemOf Try.prog 25 46 2 16 := ElemOf.mk' (z := .agg #[.int .i64 0, .int .i64 0]) Try.underlying25 (by kernel_rfl) rfl (by omega)

end Go.Proofs.Ytgjlibecgkhocaa
