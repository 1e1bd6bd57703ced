
/-
  arena.Alloc out of the free list, and out of the slots that were never used. No conditions beyond those of the statement.
-/
import Derived.Test.YtgjlibecgkhocaaAt
set_option linter.unusedVariables false
set_option linter.unusedSimpArgs false
namespace Go.Proofs.Ytgjlibecgkhocaa
open Go.RowKit

set_option maxRecDepth 100000 in
set_option maxHeartbeats 1000000 in
/-- a slot that was freed is taken -/
theorem alloc_free (B a : Nat) (s : Ar) (i C k : Nat) (c : Cls) (x : Slot) (size : Int) (w : World) (h : IsAr w B a s) (hn : s.cls.length ≤ 8) (h1 : 1 ≤ size) (hk : fitK s.cls size = i) (hat : At s i C c k) (hx : c.slots[k]? = some x) (hl : c.slots.length ≤ 65536)
    (hage : 0 ≤ x.age ∧ x.age < 4611686018427387904) (hlive : 0 ≤ c.live ∧ c.live < 4611686018427387904) (hnx : -9223372036854775808 ≤ x.next ∧ x.next < 9223372036854775808) :
    Calls Try.prog 34 #[.pointer (some ⟨a, 0, none⟩), .int .i64 size] w fun e w' => e = .returned (.tuple #[.agg #[.int .i64 i, .int .i64 k, .int .i64 (x.age + 1)], .int .i64 0]) ∧
      IsAr w' B a { s with free := s.free.set i x.next, cls := s.cls.set i { c with slots := c.slots.set k x.taken, live := c.live + 1 } } ∧ Keeps (ArS B w) w w' := by
  have hi : i < s.cls.length := (List.getElem?_eq_some_iff.1 hat.hc).1
  have hkn : k < c.slots.length := (List.getElem?_eq_some_iff.1 hx).1
  have k1 := (Keeps.refl (fun _ => False) w).alloc (.cells #[.int .i64 0, .int .i64 0, .int .i64 0] 58)
  have b1 := hide (Blk.new w 58 #[.int .i64 0, .int .i64 0, .int .i64 0])
  have HF := hide (fit_ok B a s i size _ (h.quiet k1) hn h1 hk hi)
  have H0 := hide h
  have H1 := hide (h.quiet k1)
  have K1 := hide k1
  have HAt := hide hat
  have HX := hide hx
  obtain ⟨m, hm⟩ : ∃ m, m = s.cls.length := ⟨_, rfl⟩
  rw [← hm] at hi hn
  have HM := hide hm
  obtain ⟨sn, hsn⟩ : ∃ sn, sn = c.slots.length := ⟨_, rfl⟩
  rw [← hsn] at hl hkn
  have HSn := hide hsn
  clear h hk k1 hat hm hsn hx
  go_enter Try.func34, Try.ntmps34
  go_wp2_with fail
  refine HF.out.mono ?_
  rintro e w2 ⟨rfl, k2⟩
  have K2 := hide (K1.out.trans k2)
  have b2 := hide (b1.out.kept k2 (fun h => h))
  have H2 := hide (H1.out.quiet k2)
  obtain ⟨HO, HB⟩ := H2.out.open_ HAt.out.hc
  obtain ⟨S, hSA, hSB, hSl⟩ := HB.sl.some_ (by rw [← HSn.out]; omega)
  have HOw := HB.sl
  rw [hSA] at HOw
  have HSA := hide hSA
  have c0 := IsArH.classes_cell H2.out
  have cf := IsArH.free_cell H2.out HAt.out.hf
  have fa := H2.out.blk.frozen (1 + i)
  have ow := H2.out.own
  rw [HAt.out.hC, ← HM.out] at c0
  rw [HAt.out.hC] at ow
  obtain ⟨g0, g1, g2, g3⟩ := clsCs_at HAt.out.hc
  have d1 := ow.cell (i * 4 + 1) (by rw [← HM.out]; omega)
  have d2 := ow.cell (i * 4 + 2) (by rw [← HM.out]; omega)
  rw [g1] at d1
  rw [g2, ← HSn.out, hSA] at d2
  obtain ⟨g4, g5, g6, g7⟩ := slotCs_at HX.out
  have d6 := HOw.cell (k * 4 + 2) (by rw [← HSn.out]; omega)
  rw [g6] at d6
  have HOH := hide HO
  have HBH := hide HB
  have HOW := hide HOw
  have hiI : (i : Int) < (m : Int) := by omega
  have hi8 : (i : Int) < 8 := by omega
  have hi0 : (0 : Int) ≤ (i : Int) := by omega
  have hkI : (k : Int) < (sn : Int) := by omega
  have hk0 : (0 : Int) ≤ (k : Int) := by omega
  have e0 : ((k : Int) != -1) = true := by simp
  have hT : Hid (Tl w B a i C S sn c.sc k w.heap.size #[.int .i64 0, .int .i64 0, .int .i64 0] { s with free := s.free.set i x.next } c c.slots x (w2.setCell ⟨a, 1 + i, none⟩ (.int .i64 x.next))) := by
    have hfr := HOH.out.setFree i x.next (by omega)
    have kk := keepsOne w2 a (1 + i) (.int .i64 x.next)
    have hno : ∀ {e sz n c : Nat} {A : Option Addr} {xs : List Value}, Own w2 B e sz A n c xs → 86 ≠ e → ∀ b, inB A b → ¬ b = a := fun o he b hb hS => by
      obtain ⟨cs, hb'⟩ := o.blk hb
      rw [hS] at hb'
      exact he (blk_type H2.out.blk hb')
    have hSw : ArS B w2 S := ArS.slot HOW.out
    refine ⟨hfr, ?_, HX.out, fun j y _ hy => (HBH.out.da j y hy).kept kk (hno (HBH.out.da j y hy) (by decide)), b2.out.kept kk (fun e => absurd (blk_type b2.out (e ▸ H2.out.blk)) (by decide)), ?_, fun j d hj hd hb => HBH.out.dj j d hj hd S (by rw [HSA.out]; exact ⟨_, rfl, rfl⟩) hb, ?_, ?_, HAt.out.hC, HAt.out.hc, ⟨HSA.out, HSn.out.symm, rfl⟩⟩
    · have := HOW.out.kept kk (hno HOW.out (by decide))
      rw [← HSn.out] at this
      exact this
    · exact ((K2.out).weak (S' := ArS B w) (fun _ _ h => h.elim)).step kk (fun b hb e => by subst e; exact ArS.ar H0.out)
    · intro b hb e
      subst e
      obtain ⟨h1, cs, t, h2, h3⟩ := hSw
      exact ⟨h1, cs, t, (K2.out.block b hb (fun h => h)).symm.trans h2, h3⟩
    · exact ArS.cls H0.out HAt.out.hC
  clear k2 g0 g1 g2 g3 g4 g5 g6 g7 ow b1 H1 K1 HF HO HB HOw hSA HOH HBH b2 H2
  trace "A"
  go_upto_region 8 with fail
  trace "R8"
  go_region
  trace "R8b"
  have T := hide hT.out.drew
  clear hT c0 cf fa d1 d2 d6
  generalize (w2.setCell _ _).drew = wt at *
  have hCS : C ≠ S := fun e => by obtain ⟨c1, h1⟩ := T.out.blkC; obtain ⟨c2, h2⟩ := T.out.blkS; exact absurd (blk_type h1 (e ▸ h2)) (by decide)
  obtain ⟨q2, q3⟩ := T.out.clsCell
  obtain ⟨p0, p1, p2, p3⟩ := T.out.slotCell
  have fS := fun j => T.out.O.frozen j
  have fS0 := fS (k * 4)
  have fS1 := fS (k * 4 + 1)
  have fS3 := fS (k * 4 + 3)
  have T1 := hide (T.out.slot 0 (by omega) { x with age := x.age + 1 } (.int .i64 (x.age + 1)) rfl)
  clear fS fS1 fS3
  have w1 : IntKind.i64.wrap (x.age + 1) = x.age + 1 := IntWalk.i64_in _ (by omega)
  go_upto_region 14 with fail
  trace "T14"
  change Hid (Tl w B a i C S _ _ _ _ _ _ _ _ _ (wt.setCell ⟨S, k * 4, none⟩ (.int .i64 (x.age + 1)))) at T1
  clear T q2 q3 p0 p1 p2 p3 fS0
  generalize wt.setCell _ _ = w5 at *
  obtain ⟨q2, q3⟩ := T1.out.clsCell
  obtain ⟨p0, p1, p2, p3⟩ := T1.out.slotCell
  have f1 := T1.out.O.frozen (k * 4 + 1)
  have T2 := hide (T1.out.slot 1 (by omega) { x with age := x.age + 1, used := true } (.bool true) rfl)
  go_upto_region 15 with fail
  trace "T15"
  clear T1 q2 q3 p0 p1 p2 p3 f1
  generalize w5.setCell _ _ = w6 at *
  obtain ⟨q2, q3⟩ := T2.out.clsCell
  obtain ⟨p0, p1, p2, p3⟩ := T2.out.slotCell
  have f1 := T2.out.O.frozen (k * 4 + 3)
  have T3 := hide (T2.out.slot 3 (by omega) x.taken (.slice none 0 0) rfl)
  go_upto_region 16 with fail
  trace "T16"
  clear T2 q2 q3 p0 p1 p2 p3 f1
  generalize w6.setCell _ _ = w7 at *
  obtain ⟨q2, q3⟩ := T3.out.clsCell
  have f1 := T3.out.frozenC (i * 4 + 3)
  have hlw : IntKind.i64.wrap (c.live + 1) = c.live + 1 := IntWalk.i64_in _ (by omega)
  have HE := hide (T3.out.done (c.live + 1) (by simp) (Own.nil _ _ _ _))
  have hlv : ∀ v : Int, v = c.live + 1 → v = c.live + 1 := fun _ h => h
  go_upto_region 17 with fail
  trace "T17"
  clear T3 q2 q3 f1
  generalize w7.setCell _ _ = w8 at *
  obtain ⟨hA, hb8, hk8, p0⟩ := HE.out
  have HA := hide hA
  have K8 := hide hk8
  have b8 := hide hb8
  obtain ⟨⟨q0, q1, q2⟩, ⟨f0, f1, f2⟩, hz⟩ := hb8.three
  clear hA hk8 HE hb8
  have p0' : w8.cell? ⟨S, k * 4, none⟩ = some (.int .i64 (x.age + 1)) := p0
  clear p0
  go_wp2_with fail
  trace "END"
  have HA3 := hide (IsAr.kept HA.out (keeps3 w8 w.heap.size (.int .i64 i) (.int .i64 k) (.int .i64 (x.age + 1))) (fun b e => by subst e; exact .inr ⟨_, _, b8.out, by decide, by decide, by decide, by decide⟩))
  have b3 := hide (b8.out.set3 (.int .i64 i) (.int .i64 k) (.int .i64 (x.age + 1)))
  have K3 := hide (K8.out.step (keeps3 w8 w.heap.size (.int .i64 i) (.int .i64 k) (.int .i64 (x.age + 1))) (fun b hb e => by omega))
  generalize ((w8.setCell _ _).setCell _ _).setCell _ _ = w3 at *
  have r0 := b3.out.cell 0
  have r1 := b3.out.cell 1
  have r2 := b3.out.cell 2
  refine bodyPost_ret (v := .tuple #[.agg #[(.int .i64 i), (.int .i64 k), (.int .i64 (x.age + 1))], .int .i64 0]) (by simp [results, Try.results34, go_sem, r0, r1, r2]) rfl ?_
  refine ⟨rfl, ?_, K3.out⟩
  have := HA3.out
  simpa [List.set_set] using this

def Slot.zero : Slot := ⟨0, false, 0, none, 0, []⟩
/-- a slot was appended, and the class's header written -/
theorem Tl.new {w w3 w4 w7 : World} {B a i C S sn c7 q0 : Nat} {s : Ar} {c : Cls} {x0 : Slot} {f : Int} (H0 : IsAr w B a s) (hat : At s i C c f) (hSn : sn = c.slots.length) (hX0 : x0 = Slot.zero) (K2 : Keeps (fun _ => False) w w3) (b2 : Blk w3 q0 58 #[.int .i64 0, .int .i64 0, .int .i64 0])
    (HO : IsArH w3 B a s (· = i)) (HB : Behind w3 B s i c) (k34 : Keeps (fun _ => False) w3 w4) (hK7 : Keeps (inB c.SA) w4 w7) (o7 : Own w7 B 93 4 (some ⟨S, 0, none⟩) (sn + 1) c7 (slotCs c.slots ++ [.int .i64 0, .bool false, .int .i64 0, .slice none 0 0])) (hA7 : ∀ k, inB (some ⟨S, 0, none⟩) k → inB c.SA k ∨ w4.heap.size ≤ k) :
    Tl w B a i C S (sn + 1) c7 sn q0 #[.int .i64 0, .int .i64 0, .int .i64 0] { s with cls := s.cls.set i { c with SA := some ⟨S, 0, none⟩, sc := c7, slots := c.slots ++ [x0] } } { c with SA := some ⟨S, 0, none⟩, sc := c7, slots := c.slots ++ [x0] } (c.slots ++ [x0]) x0 (w7.setCell ⟨C, i * 4 + 2, none⟩ (.slice (some ⟨S, 0, none⟩) (sn + 1) c7)) := by
  have ow4 := HB.sl.kept k34 (fun _ _ h => h)
  have hsl : ∀ b, inB c.SA b → ∃ cs, Blk w4 b 93 cs := fun b hb => ow4.blk hb
  have h7 : IsArH w7 B a s (· = i) := (HO.quiet k34).kept hK7 (fun b hb => .inr ⟨hsl b hb, fun j d hj hd => HB.dj j d hj hd b hb⟩)
  have h8 := h7.cls_ (k := 2) (y := { c with SA := some ⟨S, 0, none⟩, sc := c7, slots := c.slots ++ [x0] }) hat.hC hat.hc (by omega) (.slice (some ⟨S, 0, none⟩) (sn + 1) c7) (by simp [clsC, hSn])
  have hil := (List.getElem?_eq_some_iff.1 hat.hc).1
  have kk := keepsOne w7 C (i * 4 + 2) (.slice (some ⟨S, 0, none⟩) (sn + 1) c7)
  have hbC : ∃ cs, Blk w7 C 89 cs := by
    have := h7.own
    rw [hat.hC] at this
    exact this.blk ⟨_, rfl, rfl⟩
  obtain ⟨csC, hbC⟩ := hbC
  have hno : ∀ {e sz n c : Nat} {A : Option Addr} {xs : List Value}, Own w7 B e sz A n c xs → 89 ≠ e → ∀ b, inB A b → ¬ b = C := fun o he b hb hS => by
    obtain ⟨cs, hb'⟩ := o.blk hb
    rw [hS] at hb'
    exact he (blk_type hbC hb')
  have hSin : inB (some ⟨S, 0, none⟩ : Option Addr) S := ⟨_, rfl, rfl⟩
  have hKs : Keeps (ArS B w) w w4 := ((K2).weak (S' := ArS B w) (fun _ _ h => h.elim)).step0 k34
  have hSA : ∀ b, b < w.heap.size → inB c.SA b → ArS B w b := fun b hb hin => by
    obtain ⟨cs, h1⟩ := HB.sl.blk hin
    exact ⟨(HB.sl.inB hin).1, cs, _, (K2.block b hb (fun h => h)).symm.trans h1, .inr (.inr rfl)⟩
  refine ⟨h8, ?_, by simp [hSn], fun j y hj hy => ?_, ?_, ?_, fun j d hj hd hb => ?_, fun b hb e => ?_, ArS.cls H0 hat.hC, hat.hC, by simp [hil], ⟨rfl, by simp [hSn], rfl⟩⟩
  · have := o7.kept kk (hno o7 (by decide))
    rw [slotCs_app, hX0]
    exact this
  · have hjl : j < c.slots.length := by
      have := (List.getElem?_eq_some_iff.1 hy).1
      rw [List.length_append, ← hSn] at this
      simp at this
      omega
    rw [List.getElem?_append_left hjl] at hy
    have o := (HB.da j y hy).kept k34 (fun _ _ h => h)
    have o2 := o.kept hK7 (fun b hb hS => by
      obtain ⟨cs1, h1⟩ := o.blk hb
      obtain ⟨cs2, h2⟩ := hsl b hS
      exact absurd (blk_type h1 h2) (by decide))
    exact o2.kept kk (hno o2 (by decide))
  · have o := b2.kept k34 (fun h => h)
    have o2 := o.kept hK7 (fun hS => by
      obtain ⟨cs2, h2⟩ := hsl _ hS
      exact absurd (blk_type o h2) (by decide))
    exact o2.kept kk (fun e => absurd (blk_type o2 (e ▸ hbC)) (by decide))
  · exact (hKs.step hK7 hSA).step kk (fun b hb e => by subst e; exact ArS.cls H0 hat.hC)
  · dsimp only at hd
    rw [List.getElem?_set, if_neg (fun e => hj e.symm)] at hd
    rcases hA7 S hSin with h | h
    · exact HB.dj j d hj hd S h hb
    · have := (HO.sl j d hj hd).inB hb
      have := k34.size
      omega
  · subst e
    rcases hA7 b hSin with h | h
    · exact hSA b hb h
    · have := K2.size
      have := k34.size
      omega
set_option maxRecDepth 100000 in
set_option maxHeartbeats 1000000 in
/-- a slot that was never used is taken -/
theorem alloc_new (B a : Nat) (s : Ar) (i C : Nat) (c : Cls) (size : Int) (w : World) (h : IsAr w B a s) (hn : s.cls.length ≤ 8) (h1 : 1 ≤ size) (hk : fitK s.cls size = i) (hat : At s i C c (-1)) (hroom : c.slots.length < c.count) (hl : c.count ≤ 65536)
    (hlive : 0 ≤ c.live ∧ c.live < 4611686018427387904) (hB : B ≤ w.heap.size) :
    Calls Try.prog 34 #[.pointer (some ⟨a, 0, none⟩), .int .i64 size] w fun e w' => e = .returned (.tuple #[.agg #[.int .i64 i, .int .i64 c.slots.length, .int .i64 1], .int .i64 0]) ∧
      (∃ SA sc, IsAr w' B a { s with cls := s.cls.set i { c with SA := SA, sc := sc, slots := c.slots ++ [Slot.zero.taken], live := c.live + 1 } }) ∧ Keeps (ArS B w) w w' := by
  have hi : i < s.cls.length := (List.getElem?_eq_some_iff.1 hat.hc).1
  have k1 := (Keeps.refl (fun _ => False) w).alloc (.cells #[.int .i64 0, .int .i64 0, .int .i64 0] 58)
  have b1 := hide (Blk.new w 58 #[.int .i64 0, .int .i64 0, .int .i64 0])
  have HF := hide (fit_ok B a s i size _ (h.quiet k1) hn h1 hk hi)
  have H0 := hide h
  have H1 := hide (h.quiet k1)
  have K1 := hide k1
  have HAt := hide hat
  obtain ⟨m, hm⟩ : ∃ m, m = s.cls.length := ⟨_, rfl⟩
  rw [← hm] at hi hn
  have HM := hide hm
  obtain ⟨sn, hsn⟩ : ∃ sn, sn = c.slots.length := ⟨_, rfl⟩
  rw [← hsn] at hroom ⊢
  have HSn := hide hsn
  clear h hk k1 hat hm hsn
  go_enter Try.func34, Try.ntmps34
  go_wp2_with fail
  refine HF.out.mono ?_
  rintro e w2 ⟨rfl, k2⟩
  have K2 := hide (K1.out.trans k2)
  have b2 := hide (b1.out.kept k2 (fun h => h))
  have H2 := hide (H1.out.quiet k2)
  have hB2 : B ≤ w2.heap.size := Nat.le_trans hB K2.out.size
  have c0 := IsArH.classes_cell H2.out
  have cf := IsArH.free_cell H2.out HAt.out.hf
  have ow := H2.out.own
  rw [HAt.out.hC, ← HM.out] at c0
  rw [HAt.out.hC] at ow
  obtain ⟨g0, g1, g2, g3⟩ := clsCs_at HAt.out.hc
  have d1 := ow.cell (i * 4 + 1) (by rw [← HM.out]; omega)
  have d2 := ow.cell (i * 4 + 2) (by rw [← HM.out]; omega)
  rw [g1] at d1
  rw [g2, ← HSn.out] at d2
  have hiI : (i : Int) < (m : Int) := by omega
  have hi8 : (i : Int) < 8 := by omega
  have hi0 : (0 : Int) ≤ (i : Int) := by omega
  have e1 : decide ((sn : Int) < c.count) = true := by simp; omega
  clear k2 g0 g1 g2 g3 ow b1 H1 K1 HF
  trace "A"
  go_upto_region 9 with fail
  trace "R9"
  go_wp2_with fail
  go_quiet (fail)
  trace "R10"
  have c0' : (w2.drewN nq).cell? ⟨C, i * 4 + 2, none⟩ = some (.slice c.SA sn c.sc) := d2
  have b2' := hide (b2.out.drewN nq)
  have H2' := hide (H2.out.quiet ((Keeps.refl _ _).drewN nq))
  have K2' := hide (K2.out.drewN nq)
  have hB2' : B ≤ (w2.drewN nq).heap.size := hB2
  clear c0 cf d1 d2 H2 K2 b2 hB2
  generalize w2.drewN nq = w3 at *
  obtain ⟨HO, HB⟩ := H2'.out.open_ HAt.out.hc
  have HOW := HB.sl
  rw [← HSn.out] at HOW
  have HG2 := hide (clsCs_at HAt.out.hc).2.2.1
  have HL4 : Hid ((slotCs c.slots ++ [.int .i64 0, .bool false, .int .i64 0, .slice none 0 0])[sn * 4]? = some (.int .i64 0)) := by show _ = _; rw [List.getElem?_append_right (by rw [slotCs_len, HSn.out]; omega), slotCs_len, HSn.out, Nat.sub_self]; rfl
  have HOH := hide HO
  have HBH := hide HB
  have HOw := hide HOW
  have f2 := (by have := HO.own; rw [HAt.out.hC] at this; exact this : Own w3 B 89 4 (some ⟨C, 0, none⟩) s.cls.length s.cap (clsCs s.cls)).frozen (i * 4 + 2)
  clear HO HB HOW
  go_upto_region 11 with fail
  trace "R11"
  go_upto_region 14 with (at_builtin; refine wpList_app _ elemSlot rfl (.tmp 71) (.tmp 73) rfl B _ rfl (HOw.out.kept ((Keeps.refl (fun _ => False) w3).alloc _) (fun _ _ h => h)) _ (m := 1) [.int .i64 0, .bool false, .int .i64 0, .slice none 0 0] rfl (by exact Blk.rd (xs := [.int .i64 0, .bool false, .int .i64 0, .slice none 0 0]) (Blk.new_at _ _ _ _ (by simp)) rfl) (by simp [Value.oneCell']) (by simp only [maxLen]; omega) (by omega) (by simp; omega) ?_; intro A7 c7 w7 o7 k7 hA7; have o8 := (by have := (IsArH.kept (HOH.out.quiet ((Keeps.refl (fun _ => False) w3).alloc _)) k7 (fun b hb => .inr ⟨(HOw.out.kept ((Keeps.refl (fun _ => False) w3).alloc _) (fun _ _ h => h)).blk hb, fun j d hj hd => HBH.out.dj j d hj hd b hb⟩)).own; rw [HAt.out.hC] at this; exact this : Own w7 B 89 4 (some ⟨C, 0, none⟩) s.cls.length s.cap (clsCs s.cls)); have f7 := o8.frozen (i * 4 + 2); have d7 := o8.cell (i * 4 + 2) (by rw [← HM.out]; omega); rw [HG2.out, ← HSn.out] at d7; obtain ⟨S, rfl, hSB, hSl⟩ := o7.some_ (by omega); have hSC : S ≠ C := (fun e => by obtain ⟨cs1, h1⟩ := o7.blk (b := S) ⟨_, rfl, rfl⟩; obtain ⟨cs2, h2⟩ := o8.blk (b := C) ⟨_, rfl, rfl⟩; exact absurd (blk_type h1 (e ▸ h2)) (by decide)); have hCS : C ≠ S := fun e => hSC e.symm; have p7 := o7.cell (sn * 4) (by omega); have g7 := o7.frozen (sn * 4); rw [HL4.out] at p7; have O7 := hide o7; have K7 := hide k7; have HA7 := hide hA7; clear o7 k7 hA7 o8)
  trace "R14"
  have T := hide (Tl.new H0.out HAt.out HSn.out rfl K2'.out b2'.out HOH.out HBH.out ((Keeps.refl _ _).alloc _) K7.out O7.out HA7.out)
  have T1 : Hid (Tl w B a i C S (sn + 1) c7 sn w.heap.size #[.int .i64 0, .int .i64 0, .int .i64 0] { s with cls := s.cls.set i { c with SA := some ⟨S, 0, none⟩, sc := c7, slots := c.slots ++ [Slot.zero] } } { c with SA := some ⟨S, 0, none⟩, sc := c7, slots := c.slots ++ [Slot.zero] } ((c.slots ++ [Slot.zero]).set sn { Slot.zero with age := 1 }) { Slot.zero with age := 1 } ((w7.setCell ⟨C, i * 4 + 2, none⟩ (.slice (some ⟨S, 0, none⟩) (sn + 1) c7)).setCell ⟨S, sn * 4, none⟩ (.int .i64 1))) := hide (T.out.slot 0 (by omega) { Slot.zero with age := 1 } (.int .i64 1) rfl)
  clear T O7 K7 HA7 HOH HBH HOw K2' b2' H2' c0' f2 f7 d7 p7 g7
  generalize (w7.setCell _ _).setCell _ _ = w5 at *
  have hk0 : (0 : Int) ≤ (sn : Int) := by omega
  have hage : (0 : Int) ≤ 0 ∧ (0 : Int) < 4611686018427387904 := by decide
  obtain ⟨x0, hx0⟩ : ∃ x0, x0 = ({ Slot.zero with age := 0 } : Slot) := ⟨_, rfl⟩
  have T1' : Hid (Tl w B a i C S (sn + 1) c7 sn w.heap.size #[.int .i64 0, .int .i64 0, .int .i64 0] { s with cls := s.cls.set i { c with SA := some ⟨S, 0, none⟩, sc := c7, slots := c.slots ++ [Slot.zero] } } { c with SA := some ⟨S, 0, none⟩, sc := c7, slots := c.slots ++ [Slot.zero] } ((c.slots ++ [Slot.zero]).set sn { x0 with age := x0.age + 1 }) { x0 with age := x0.age + 1 } w5) := by rw [hx0]; exact T1
  have HX0 := hide hx0
  have hage : 0 ≤ x0.age ∧ x0.age < 4611686018427387904 := by rw [hx0]; decide
  clear T1 hx0
  have T1 := T1'
  clear T1'
  obtain ⟨q2, q3⟩ := T1.out.clsCell
  obtain ⟨p0, p1, p2, p3⟩ := T1.out.slotCell
  have f1 := T1.out.O.frozen (sn * 4 + 1)
  have T2 := hide (T1.out.slot 1 (by omega) { x0 with age := x0.age + 1, used := true } (.bool true) rfl)
  go_upto_region 15 with fail
  trace "T15"
  clear T1 q2 q3 p0 p1 p2 p3 f1
  generalize w5.setCell _ _ = w6 at *
  obtain ⟨q2, q3⟩ := T2.out.clsCell
  obtain ⟨p0, p1, p2, p3⟩ := T2.out.slotCell
  have f1 := T2.out.O.frozen (sn * 4 + 3)
  have T3 := hide (T2.out.slot 3 (by omega) x0.taken (.slice none 0 0) rfl)
  go_upto_region 16 with fail
  trace "T16"
  clear T2 q2 q3 p0 p1 p2 p3 f1
  generalize w6.setCell _ _ = w7 at *
  obtain ⟨q2, q3⟩ := T3.out.clsCell
  have f1 := T3.out.frozenC (i * 4 + 3)
  have hlw : IntKind.i64.wrap (c.live + 1) = c.live + 1 := IntWalk.i64_in _ (by omega)
  have HE := hide (T3.out.done (c.live + 1) (by simp) (Own.nil _ _ _ _))
  have hlv : ∀ v : Int, v = c.live + 1 → v = c.live + 1 := fun _ h => h
  go_upto_region 17 with fail
  trace "T17"
  clear T3 q2 q3 f1
  generalize w7.setCell _ _ = w8 at *
  obtain ⟨hA, hb8, hk8, p0⟩ := HE.out
  have HA := hide hA
  have K8 := hide hk8
  have b8 := hide hb8
  obtain ⟨⟨q0, q1, q2⟩, ⟨f0, f1, f2⟩, hz⟩ := hb8.three
  clear hA hk8 HE hb8
  have p0' : w8.cell? ⟨S, sn * 4, none⟩ = some (.int .i64 (x0.age + 1)) := p0
  clear p0
  go_wp2_with fail
  trace "END"
  have HA3 := hide (IsAr.kept HA.out (keeps3 w8 w.heap.size (.int .i64 i) (.int .i64 sn) (.int .i64 (x0.age + 1))) (fun b e => by subst e; exact .inr ⟨_, _, b8.out, by decide, by decide, by decide, by decide⟩))
  have b3 := hide (b8.out.set3 (.int .i64 i) (.int .i64 sn) (.int .i64 (x0.age + 1)))
  have K3 := hide (K8.out.step (keeps3 w8 w.heap.size (.int .i64 i) (.int .i64 sn) (.int .i64 (x0.age + 1))) (fun b hb e => by omega))
  generalize ((w8.setCell _ _).setCell _ _).setCell _ _ = w3 at *
  have r0 := b3.out.cell 0
  have r1 := b3.out.cell 1
  have r2 := b3.out.cell 2
  refine bodyPost_ret (v := .tuple #[.agg #[(.int .i64 i), (.int .i64 sn), (.int .i64 (x0.age + 1))], .int .i64 0]) (by simp [results, Try.results34, go_sem, r0, r1, r2]) rfl ?_
  have hx1 : x0.age + 1 = 1 := by rw [HX0.out]; rfl
  refine ⟨by rw [hx1], ⟨some ⟨S, 0, none⟩, c7, ?_⟩, K3.out⟩
  have h9 := HA3.out
  have h10 : (c.slots ++ [Slot.zero]).set sn x0.taken = c.slots ++ [x0.taken] := by
    rw [HSn.out, List.set_append_right _ _ (Nat.le_refl _)]
    simp
  simp only [List.set_set] at h9
  rw [h10, HX0.out] at h9
  exact h9
end Go.Proofs.Ytgjlibecgkhocaa
