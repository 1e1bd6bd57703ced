/-
  arena.Usage; the deck's Classes. No conditions beyond those of the statement.
-/
import Derived.Test.YtidobhflijdccaaAy
set_option linter.unusedVariables false
set_option linter.unusedSimpArgs false
namespace Go.Proofs.Ytidobhflijdccaa
open Go.RowKit Cfp

def Cls.nil : Cls := ⟨0, 0, none, 0, [], 0⟩
/-- the bytes in use of the first i classes -/
def bytesN (l : List Cls) : Nat → Int
  | 0 => 0
  | i + 1 => bytesN l i + (l.getD i Cls.nil).live * (l.getD i Cls.nil).size
/-- bounds of an arena's classes -/
def Small (s : Ar) : Prop := s.cls.length ≤ 8 ∧ ∀ (i : Nat) (c : Cls), s.cls[i]? = some c → 0 ≤ c.live ∧ c.live ≤ 65536 ∧ 1 ≤ c.size ∧ c.size ≤ 4096
theorem bytesN_bd (s : Ar) (h : Small s) : ∀ i, i ≤ s.cls.length → 0 ≤ bytesN s.cls i ∧ bytesN s.cls i ≤ 268435456 * i
  | 0, _ => by simp [bytesN]
  | i + 1, hi => by
    have h1 := bytesN_bd s h i (by omega)
    obtain ⟨c, hc⟩ : ∃ c, s.cls[i]? = some c := ⟨s.cls[i]'(by omega), by simp⟩
    have h2 := h.2 i c hc
    have e : s.cls.getD i Cls.nil = c := by simp [List.getD, hc]
    have p1 : 0 ≤ c.live * c.size := Int.mul_nonneg h2.1 (by omega)
    have p2 : c.live * c.size ≤ 65536 * 4096 := Int.mul_le_mul h2.2.1 h2.2.2.2 (by omega) (by omega)
    rw [bytesN, e]
    push_cast
    omega
def livesC (l : List Cls) : List Value := l.map (fun c => .int .i64 c.live)
theorem elemInt : ElemOf Try.prog 23 3 1 8 := ElemOf.mk' (z := .int .i64 0) Try.underlying23 (by kernel_rfl) rfl (by omega)

/-- what Usage gives -/
def Usages (w : World) (s : Ar) (e : Ending) (w' : World) : Prop :=
  ∃ D m, e = .returned (.agg #[.slice D s.cls.length m, .int .i64 (bytesN s.cls s.cls.length), .int .i64 s.faults]) ∧ Own w' w.heap.size 3 1 D s.cls.length m (livesC s.cls) ∧ Keeps (fun _ => False) w w'
set_option maxRecDepth 100000 in
set_option maxHeartbeats 2000000 in
theorem usage_any (B a : Nat) (s : Ar) (w : World) (h : IsAr w B a s) (hs : Small s) :
    Calls Try.prog 26 #[.pointer (some ⟨a, 0, none⟩)] w (Usages w s) := by
  have k1 := (Keeps.refl (fun _ => False) w).alloc (.cells #[.slice none 0 0, .int .i64 0, .int .i64 0] 46)
  have b1 := Blk.new w 46 #[.slice none 0 0, .int .i64 0, .int .i64 0]
  have k2 := k1.alloc (.cells #[.slice none 0 0, .int .i64 0, .int .i64 s.faults] 46)
  have b2 := Blk.new_at (w.alloc (.cells #[.slice none 0 0, .int .i64 0, .int .i64 0] 46)) 46 #[.slice none 0 0, .int .i64 0, .int .i64 s.faults] (w.heap.size + 1) (by simp)
  have b12 := b1.alloc (.cells #[.slice none 0 0, .int .i64 0, .int .i64 s.faults] 46)
  have H1 := hide (h.quiet k1)
  have H2 := hide (h.quiet k2)
  have K2 := hide k2
  have B2 := hide b2
  have B1 := hide b12
  have c9 := IsArH.faults_cell H1.out
  have c0 := IsArH.classes_cell H2.out
  have HS := hide hs
  obtain ⟨n, hn⟩ : ∃ n, n = s.cls.length := ⟨_, rfl⟩
  obtain ⟨CA, hCA⟩ : ∃ CA, CA = s.CA := ⟨_, rfl⟩
  rw [← hn, ← hCA] at c0
  have HCA := hide hCA
  clear hCA
  have hn8 : n ≤ 8 := by rw [hn]; exact hs.1
  have HN := hide hn
  have ha : a < w.heap.size := h.blk.lt
  have HA := hide h
  clear h hs k1 b1 k2 b2 b12 H1 hn
  unfold Usages
  rw [← HN.out]
  go_enter Try.func26, Try.ntmps26
  go_wp2_with fail
  trace "LOOP"
  generalize (w.alloc _).alloc _ = w2 at *
  have hz2 : w.heap.size + 1 < w2.heap.size := B2.out.lt
  go_loopw [5, 19] (fun _ iv wr => ∃ (i : Nat) (D : Option Addr) (m : Nat), i ≤ n ∧ iv = .int .i64 i ∧ Hid (Own wr (w.heap.size + 2) 3 1 D i m (livesC (s.cls.take i))) ∧ Hid (Blk wr (w.heap.size + 1) 46 #[.slice D i m, .int .i64 (bytesN s.cls i), .int .i64 s.faults]) ∧ Hid (Blk wr w.heap.size 46 #[.slice none 0 0, .int .i64 0, .int .i64 0]) ∧ Hid (Keeps (fun _ => False) w wr)) (fun _ iv _ => n - (intOf iv).toNat)
  case atStart => exact ⟨0, none, 0, by omega, rfl, hide (Own.nil _ _ _ _), B2, B1, K2⟩
  case round =>
    obtain ⟨i, D, m, hi, rfl, HO, HX, HR, KR⟩ := hrel
    clear B2 B1
    by_cases hlt : i < n
    · have HLT : Hid (i + 1 ≤ n) := hlt
      have hil : i < s.cls.length := by rw [← HN.out]; exact hlt
      obtain ⟨c, hc⟩ : ∃ c, s.cls[i]? = some c := ⟨s.cls[i]'hil, by simp⟩
      have hcb := HS.out.2 i c hc
      have hbb := bytesN_bd s HS.out i (by omega)
      have HBN : Hid (bytesN s.cls (i + 1) = bytesN s.cls i + c.live * c.size) := by show _ = _; simp [bytesN, List.getD, hc]
      have HLV : Hid (livesC (s.cls.take (i + 1)) = livesC (s.cls.take i) ++ [.int .i64 c.live]) := by show _ = _; rw [List.take_add_one, hc]; simp [livesC]
      have p1 : 0 ≤ c.live * c.size := Int.mul_nonneg hcb.1 (by omega)
      have p2 : c.live * c.size ≤ 65536 * 4096 := Int.mul_le_mul hcb.2.1 hcb.2.2.2 (by omega) (by omega)
      obtain ⟨pr, hpr⟩ : ∃ pr, pr = c.live * c.size := ⟨_, rfl⟩
      have wm : IntKind.i64.wrap (c.live * c.size) = pr := by rw [hpr]; exact IntWalk.i64_in _ (by omega)
      rw [← hpr] at p1 p2 HBN
      obtain ⟨bn, hbn⟩ : ∃ bn, bn = bytesN s.cls i := ⟨_, rfl⟩
      rw [← hbn] at HX HBN hbb
      have wa : IntKind.i64.wrap (bn + pr) = bn + pr := IntWalk.i64_in _ (by omega)
      have ow := (HA.out.quiet KR.out).own
      rw [← HCA.out, ← HN.out] at ow
      obtain ⟨C, rfl, _⟩ := ow.some_ (by omega)
      obtain ⟨g0, g1, g2, g3⟩ := clsCs_at hc
      have d0 := ow.cell (i * 4) (by omega)
      have d1 := ow.cell (i * 4 + 1) (by omega)
      have d2 := ow.cell (i * 4 + 2) (by omega)
      have d3 := ow.cell (i * 4 + 3) (by omega)
      rw [g0] at d0
      rw [g1] at d1
      rw [g2] at d2
      rw [g3] at d3
      obtain ⟨⟨x0, x1, x2⟩, ⟨fx0, fx1, fx2⟩, hxz⟩ := HX.out.three
      have hiI : (i : Int) < (n : Int) := by omega
      have hi0 : (0 : Int) ≤ (i : Int) := by omega
      have hzr : w.heap.size + 1 < wr.heap.size := hxz
      have hwb : Hid (Blk (wr.alloc (.cells #[.int .i64 c.size, .int .i64 c.count, .slice c.SA c.slots.length c.sc, .int .i64 c.live] 125)) wr.heap.size 125 #[.int .i64 c.size, .int .i64 c.count, .slice c.SA c.slots.length c.sc, .int .i64 c.live]) := hide (Blk.new _ _ _)
      have kb := (Keeps.refl (fun _ => False) wr).alloc (.cells #[.int .i64 c.size, .int .i64 c.count, .slice c.SA c.slots.length c.sc, .int .i64 c.live] 125)
      have HO1 := hide (HO.out.kept kb (fun _ _ h => h))
      have HX1 := hide (HX.out.kept kb (fun h => h))
      have HR1 := hide (HR.out.kept kb (fun h => h))
      have KR1 := hide (KR.out.trans kb)
      clear g0 g1 g2 g3 ow hc hil hpr hbn kb HO HX HR
      go_upto_region 7 with fail
      trace "R7"
      generalize wr.alloc _ = w5 at *
      generalize wr.heap.size = Xc at *
      have hX5 : w.heap.size + 1 < w5.heap.size := HX1.out.lt
      have hXc5 : Xc < w5.heap.size := hwb.out.lt
      obtain ⟨⟨x0, x1, x2⟩, ⟨fx0, fx1, fx2⟩, hxz⟩ := HX1.out.three
      have y3 := hwb.out.cell 3
      simp only [List.getElem?_toArray, List.getElem?_cons_zero, List.getElem?_cons_succ] at y3
      go_upto_region 8 with (at_builtin; refine wpList_app _ elemInt rfl (.tmp 24) (.tmp 27) rfl (w.heap.size + 2) _ rfl (HO1.out.kept ((Keeps.refl (fun _ => False) w5).alloc _) (fun _ _ h => h)) _ (m := 1) [.int .i64 c.live] rfl (by exact Blk.rd (xs := [.int .i64 c.live]) (Blk.new_at _ _ _ _ (by simp)) rfl) (by simp [Value.oneCell']) (by simp only [maxLen]; omega) (by omega) (by simp; omega) ?_; intro A7 c7 w7 o7 k7 hA7; have hkA := (Keeps.refl (fun _ => False) w5).alloc (.cells #[.int .i64 c.live] 3); have HX7 := hide ((HX1.out.kept hkA (fun h => h)).kept k7 (fun h => by have := HO1.out.inB h; omega)); have HR7 := hide ((HR1.out.kept hkA (fun h => h)).kept k7 (fun h => by have := HO1.out.inB h; omega)); have HC7 := hide ((hwb.out.kept hkA (fun h => h)).kept k7 (fun h => HO1.out.ne_blk hwb.out (by decide) h rfl)); have f7 := HX7.out.frozen 0; have q7 := HX7.out.cell 0; have O7 := hide o7; have K7 := hide ((KR1.out.trans hkA).step k7 (fun b hb h => by have := HO1.out.inB h; omega)); clear o7 k7 hA7 hkA)
      trace "R8"
      have kS := keepsOne w7 (w.heap.size + 1) 0 (.slice A7 (i + 1) c7)
      have HX8 := hide (HX7.out.set 0 (.slice A7 (i + 1) c7))
      have HC8 := hide (HC7.out.kept kS (fun e => absurd (blk_type HC7.out (e ▸ HX7.out)) (by decide)))
      have HR8 := hide (HR7.out.kept kS (by omega))
      have O8 := hide (O7.out.kept kS (fun b hb e => by have := O7.out.inB hb; omega))
      have K8 := hide (K7.out.step kS (fun b hb e => by omega))
      clear HX7 HC7 HR7 O7 K7 kS f7 q7 x0 x1 x2 fx0 fx1 fx2 hxz y3 HO1 HX1 HR1 KR1 hwb
      generalize w7.setCell _ _ = w8 at *
      obtain ⟨⟨x0, x1, x2⟩, ⟨fx0, fx1, fx2⟩, hxz⟩ := (show Blk w8 (w.heap.size + 1) 46 #[.slice A7 (i + 1) c7, .int .i64 bn, .int .i64 s.faults] from HX8.out).three
      have y3 := HC8.out.cell 3
      have y0 := HC8.out.cell 0
      simp only [List.getElem?_toArray, List.getElem?_cons_zero, List.getElem?_cons_succ] at y3 y0
      go_wp2_with fail
      trace "RND"
      go_roundw
      case rel =>
        have kT := keepsOne w8 (w.heap.size + 1) 1 (.int .i64 (bn + pr))
        refine ⟨i + 1, A7, c7, HLT.out, by go_num, ?_, ?_, hide (HR8.out.kept kT (by omega)), hide (K8.out.step kT (fun b hb e => by omega))⟩
        · rw [HLV.out]
          exact O8.out.kept kT (fun b hb e => by have := O8.out.inB hb; omega)
        · rw [HBN.out]
          exact HX8.out.set 1 (.int .i64 (bn + pr))
      case measure => have := HLT.out; simp [intOf]; omega
    · obtain rfl : i = n := by omega
      obtain ⟨⟨x0, x1, x2⟩, ⟨fx0, fx1, fx2⟩, hxz⟩ := HX.out.three
      obtain ⟨⟨r0, r1, r2⟩, ⟨fr0, fr1, fr2⟩, hrz⟩ := HR.out.three
      have hrr := hide (HR.out.set3 (.slice D i m) (.int .i64 (bytesN s.cls i)) (.int .i64 s.faults))
      have hkk := hide (KR.out.step (keeps3 wr w.heap.size (.slice D i m) (.int .i64 (bytesN s.cls i)) (.int .i64 s.faults)) (fun b hb e => by omega))
      have o9 := hide (HO.out.kept (keeps3 wr w.heap.size (.slice D i m) (.int .i64 (bytesN s.cls i)) (.int .i64 s.faults)) (fun b hb e => by have := HO.out.inB hb; omega))
      go_wp2_with fail
      trace "END"
      generalize ((wr.setCell _ _).setCell _ _).setCell _ _ = w9 at *
      have z0 := hrr.out.cell 0
      have z1 := hrr.out.cell 1
      have z2 := hrr.out.cell 2
      refine bodyPost_ret (v := .agg #[.slice D i m, .int .i64 (bytesN s.cls i), .int .i64 s.faults]) (by simp [results, Try.results26, go_sem, z0, z1, z2]) rfl ?_
      refine ⟨D, m, rfl, ?_, hkk.out⟩
      have h1 := o9.out.base_le (show w.heap.size ≤ w.heap.size + 2 by omega)
      rw [HN.out, List.take_length] at h1
      rw [HN.out]
      exact h1

/-- ascending classes that are grown at the end -/
theorem cf_snoc : ∀ (l : List (Int × Int)) (p : Int) (x : Int × Int), classesFrom p l = 0 → (∀ c ∈ l, c.1 < x.1) → p < x.1 → ¬ (x.1 < 1 ∨ 4096 < x.1 ∨ x.2 < 0 ∨ 65536 < x.2) → classesFrom p (l ++ [x]) = 0
  | [], p, x, _, _, hp, hx => by
    rw [List.nil_append, cf_cons, if_neg hx, if_neg (by omega)]
    rfl
  | d :: l, p, x, h, hl, hp, hx => by
    rw [cf_cons] at h
    rw [List.cons_append, cf_cons]
    split at h
    · simp at h
    · next h1 =>
      rw [if_neg h1]
      split at h
      · simp at h
      · next h2 =>
        rw [if_neg h2]
        exact cf_snoc l d.1 x h (fun c hc => hl c (List.mem_cons_of_mem _ hc)) (hl d (List.mem_cons_self ..)) hx
theorem elemClass : ElemOf Try.prog 22 37 2 16 := ElemOf.mk' (z := .agg #[.int .i64 0, .int .i64 0]) Try.underlying22 (by kernel_rfl) rfl (by omega)

/-- what the deck's Classes gives -/
def Clss (w : World) (B g : Nat) (e : Ending) (w' : World) : Prop :=
  ∃ (D : Option Addr) (n m : Nat) (l : List (Int × Int)), e = .returned (.slice D n m) ∧ n ≤ 4 ∧ classesE l = 0 ∧ (∀ c ∈ l, c.2 ≤ 4 ∧ c.1 ≤ 160) ∧ Own w' w.heap.size 37 2 D n m (prs l) ∧ IsDeck w' B g ∧ Keeps (· = g) w w'
theorem classes_any (B g : Nat) (w : World) (h : IsDeck w B g) : Calls Try.prog 18 #[.pointer (some ⟨g, 0, none⟩)] w (Clss w B g) := by
  have H := hide h
  have hgl := h.lt
  have hgB := h.le
  clear h
  go_enter Try.func18, Try.ntmps18
  go_wp2_with fail
  refine (next_any 4 (by omega) (by omega) B g _ H.out).mono ?_
  rintro e w1 ⟨y, rfl, y0, y1, hd1, k1⟩
  have H1 := hide hd1
  have K1 := hide k1
  have wy : IntKind.i64.wrap (1 + y) = 1 + y := IntWalk.i64_in _ (by omega)
  clear hd1 k1 H
  go_upto_region 4 with fail
  trace "LOOP"
  go_loopw [3, 4, 5] (fun lv sv kv wr => ∃ (i : Nat) (sz : Int) (D : Option Addr) (m : Nat) (l : List (Int × Int)), l.length = i ∧ (i : Int) ≤ 1 + y ∧ lv = .slice D i m ∧ sv = .int .i64 sz ∧ kv = .int .i64 (1 + y - i) ∧ 0 ≤ sz ∧ sz ≤ 40 * i ∧ Hid (classesFrom 0 l = 0 ∧ ∀ c ∈ l, c.1 ≤ sz ∧ c.2 ≤ 4) ∧ Hid (Own wr w.heap.size 37 2 D i m (prs l)) ∧ Hid (IsDeck wr B g) ∧ Hid (Keeps (· = g) w wr)) (fun _ _ kv _ => (intOf kv).toNat)
  case atStart => exact ⟨0, 0, none, 0, [], rfl, by omega, rfl, rfl, by simp, by omega, by omega, hide ⟨rfl, fun c hc => by simp at hc⟩, hide (Own.nil _ _ _ _), H1, K1⟩
  case round =>
    obtain ⟨i, sz, D, m, l, hli, hiy, rfl, rfl, rfl, s0, s1, HC, HO, HD, HK⟩ := hrel
    clear H1 K1
    by_cases hlt : (i : Int) < 1 + y
    · have e1 : decide ((0 : Int) < 1 + y - (i : Int)) = true := by simp; omega
      have wk : IntKind.i64.wrap (1 + y - (i : Int) - 1) = 1 + y - ((i + 1 : Nat) : Int) := by rw [IntWalk.i64_in _ (by omega)]; omega
      have HLI := hide hli
      clear hli
      go_wp2_with fail
      trace "N1"
      refine (next_any 40 (by omega) (by omega) B g _ HD.out).mono ?_
      rintro e w3 ⟨z, rfl, z0, z1, hd3, k3⟩
      have H3 := hide hd3
      have K3 := hide (HK.out.trans k3)
      have O3 := hide (HO.out.kept k3 (fun b hb e => by have := HO.out.inB hb; omega))
      have wz : IntKind.i64.wrap (1 + z) = 1 + z := IntWalk.i64_in _ (by omega)
      have ws : IntKind.i64.wrap (sz + (1 + z)) = sz + (1 + z) := IntWalk.i64_in _ (by omega)
      have hw3 : w.heap.size ≤ w3.heap.size := K3.out.size
      clear hd3 k3 HO HD HK
      go_wp2_with fail
      trace "N2"
      refine (next_any 5 (by omega) (by omega) B g _ H3.out).mono ?_
      rintro e w4 ⟨v, rfl, v0, v1, hd4, k4⟩
      have H4 := hide hd4
      have K4 := hide (K3.out.trans k4)
      have O4 := hide (O3.out.kept k4 (fun b hb e => by have := O3.out.inB hb; omega))
      have hw4 : w.heap.size ≤ w4.heap.size := K4.out.size
      have hg4 : g < w4.heap.size := H4.out.lt
      clear hd4 k4 H3 K3 O3
      go_wp2_with (at_builtin; refine wpList_app _ elemClass rfl (.tmp 18) (.tmp 23) rfl w.heap.size _ rfl (O4.out.kept ((Keeps.refl (fun _ => False) w4).alloc _) (fun _ _ h => h)) _ (m := 1) [.int .i64 (sz + (1 + z)), .int .i64 v] rfl (by exact Blk.rd (xs := [.int .i64 (sz + (1 + z)), .int .i64 v]) (Blk.new_at _ _ _ _ (by simp)) rfl) (by simp [Value.oneCell']) (by simp only [maxLen]; omega) (by omega) (by simp; omega) ?_; intro A7 c7 w7 o7 k7 hA7; have hkA := (Keeps.refl (fun _ => False) w4).alloc (.cells #[.int .i64 (sz + (1 + z)), .int .i64 v] 37); have O7 := hide o7; have K7 := hide ((K4.out.step0 hkA).step k7 (fun b hb h => by have := O4.out.inB h; omega)); have H7 := hide ((H4.out.kept hkA (fun h => h) (fun _ _ h => h)).kept k7 (fun h => by have := O4.out.inB h; omega) (fun b hb h => by have := O4.out.inB h; omega)); clear o7 k7 hA7 hkA)
      trace "RND"
      go_roundw
      case rel =>
        refine ⟨i + 1, sz + (1 + z), A7, c7, l ++ [(sz + (1 + z), v)], by simp [HLI.out], by omega, rfl, rfl, by first | rfl | go_num, by omega, by push_cast; omega, hide ⟨cf_snoc l 0 _ HC.out.1 (fun c hc => by have := (HC.out.2 c hc).1; dsimp only; omega) (by dsimp only; omega) (by dsimp only; omega), fun c hc => ?_⟩, ?_, H7, K7⟩
        · rcases List.mem_append.1 hc with h | h
          · have := HC.out.2 c h; omega
          · simp at h; subst h; dsimp only; omega
        · show Own _ _ _ _ _ _ _ (prs (l ++ [(sz + (1 + z), v)]))
          unfold prs
          rw [List.flatMap_append]
          exact O7.out
      case measure => simp [intOf]; omega
    · have hiy2 : (i : Int) = 1 + y := by omega
      have e1 : decide ((0 : Int) < 1 + y - (i : Int)) = false := by simp; omega
      have hcE : Hid (classesE l = 0) := by show _ = _; rw [classesE, if_neg (by omega)]; exact HC.out.1
      clear hiy2
      go_wp2_with fail
      go_ret
      exact ⟨D, i, m, l, rfl, by omega, hcE.out, fun c hc => by have := HC.out.2 c hc; omega, HO.out, HD.out, HK.out⟩
end Go.Proofs.Ytidobhflijdccaa
