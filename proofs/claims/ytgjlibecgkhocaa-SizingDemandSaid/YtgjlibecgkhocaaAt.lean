
/-
  arena.Alloc where the size has a class. No conditions beyond those of the statement.
-/
import Derived.Test.YtgjlibecgkhocaaAs
import Derived.Test.YtgjlibecgkhocaaMem3
import Derived.Deep.CutRange
set_option linter.unusedVariables false
set_option linter.unusedSimpArgs false
namespace Go.Proofs.Ytgjlibecgkhocaa
open Go.RowKit

/-- the classes and the free list of an arena at class i -/
structure At (s : Ar) (i C : Nat) (c : Cls) (f : Int) : Prop where
  hC : s.CA = some ⟨C, 0, none⟩
  hc : s.cls[i]? = some c
  hf : s.free[i]? = some f
/-- a slot that was just allocated -/
def Slot.taken (x : Slot) : Slot := { x with age := x.age + 1, used := true, D := none, dc := 0, data := [] }
set_option maxRecDepth 100000 in
/-- the class of the size is full -/
theorem alloc_full (B a : Nat) (s : Ar) (i C : Nat) (c : Cls) (size : Int) (w : World) (h : IsAr w B a s) (hn : s.cls.length ≤ 8) (h1 : 1 ≤ size) (hk : fitK s.cls size = i) (hat : At s i C c (-1)) (hfull : c.count ≤ c.slots.length) (hl : c.slots.length ≤ 65536) (hcn : 0 ≤ c.count) :
    Calls Try.prog 34 #[.pointer (some ⟨a, 0, none⟩), .int .i64 size] w fun e w' => e = .returned (.tuple #[.agg #[.int .i64 0, .int .i64 0, .int .i64 0], .int .i64 7]) ∧ Keeps (fun _ => False) w w' := by
  have hi : i < s.cls.length := (List.getElem?_eq_some_iff.1 hat.hc).1
  have k1 := (Keeps.refl (fun _ => False) w).alloc (.cells #[.int .i64 0, .int .i64 0, .int .i64 0] 58)
  have b1 := hide (Blk.new w 58 #[.int .i64 0, .int .i64 0, .int .i64 0])
  have HF := hide (fit_ok B a s i size _ (h.quiet k1) hn h1 hk hi)
  have H1 := hide (h.quiet k1)
  have K1 := hide k1
  have HAt := hide hat
  obtain ⟨m, hm⟩ : ∃ m, m = s.cls.length := ⟨_, rfl⟩
  rw [← hm] at hi hn
  have HM := hide hm
  obtain ⟨sn, hsn⟩ : ∃ sn, sn = c.slots.length := ⟨_, rfl⟩
  rw [← hsn] at hfull hl
  have HSn := hide hsn
  clear h hk k1 hat hm hsn
  go_enter Try.func34, Try.ntmps34
  go_wp2_with fail
  refine HF.out.mono ?_
  rintro e w2 ⟨rfl, k2⟩
  have K2 := hide (K1.out.trans k2)
  have b2 := hide (b1.out.kept k2 (fun h => h))
  have H2 := hide (H1.out.quiet k2)
  obtain ⟨⟨q0, q1, q2⟩, ⟨f0, f1, f2⟩, hz⟩ := b2.out.three
  have c0 := IsArH.classes_cell H2.out
  have cf := IsArH.free_cell H2.out HAt.out.hf
  have ow := H2.out.own
  rw [HAt.out.hC, ← HM.out] at c0
  rw [HAt.out.hC] at ow
  obtain ⟨g0, g1, g2, g3⟩ := clsCs_at HAt.out.hc
  have d1 := ow.cell (i * 4 + 1) (by rw [← HM.out]; omega)
  have d2 := ow.cell (i * 4 + 2) (by rw [← HM.out]; omega)
  rw [g1] at d1
  rw [g2, ← HSn.out] at d2
  have hiI : (i : Int) < (m : Int) := by omega
  have hi8 : (i : Int) < 8 := by omega
  have hi0 : (0 : Int) ≤ (i : Int) := by omega
  have e1 : decide ((sn : Int) < c.count) = false := by simp; omega
  clear k2 g0 g1 g2 g3 ow b1 H1 K1 HF
  trace "A"
  go_upto_region 9 with fail
  trace "R9"
  go_wp2_with fail
  go_quiet (fail)
  go_wp2_with fail
  trace "END"
  have K2' := hide (K2.out.drewN nq); have b2' := hide (b2.out.drewN nq)
  have b3 := hide (b2'.out.set3 (.int .i64 0) (.int .i64 0) (.int .i64 0))
  have K3 := hide (K2'.out.step (keeps3 (w2.drewN nq) w.heap.size (.int .i64 0) (.int .i64 0) (.int .i64 0)) (fun b hb e => by omega))
  generalize (((w2.drewN nq).setCell _ _).setCell _ _).setCell _ _ = w3 at *
  have r0 := b3.out.cell 0
  have r1 := b3.out.cell 1
  have r2 := b3.out.cell 2
  refine bodyPost_ret (v := .tuple #[.agg #[(.int .i64 0), (.int .i64 0), (.int .i64 0)], .int .i64 7]) (by simp [results, Try.results34, go_sem, r0, r1, r2]) rfl ?_
  exact ⟨rfl, K3.out⟩

theorem elemSlot : ElemOf Try.prog 87 93 4 48 := ElemOf.mk' (z := .agg #[.int .i64 0, .bool false, .int .i64 0, .slice none 0 0]) Try.underlying87 (by kernel_rfl) rfl (by omega)

/-- an arena that is open at class i, whose slot k is being laid -/
structure Tl (w : World) (B a i C S n sc k q0 : Nat) (bv : Array Value) (s : Ar) (c : Cls) (ls : List Slot) (x : Slot) (W : World) : Prop where
  H : IsArH W B a s (· = i)
  O : Own W B 93 4 (some ⟨S, 0, none⟩) n sc (slotCs ls)
  hx : ls[k]? = some x
  da : ∀ (j : Nat) (y : Slot), j ≠ k → ls[j]? = some y → Own W B 5 1 y.D y.data.length y.dc (y.data.map by8)
  bx : Blk W q0 58 bv
  K : Keeps (ArS B w) w W
  dj : ∀ (j : Nat) (d : Cls), j ≠ i → s.cls[j]? = some d → ¬ inB d.SA S
  hS : ∀ b, b < w.heap.size → b = S → ArS B w b
  hCw : ArS B w C
  hC : s.CA = some ⟨C, 0, none⟩
  hc : s.cls[i]? = some c
  hcs : c.SA = some ⟨S, 0, none⟩ ∧ c.slots.length = n ∧ c.sc = sc
section
variable {w W : World} {B a i C S n sc k q0 : Nat} {bv : Array Value} {s : Ar} {c : Cls} {ls : List Slot} {x : Slot}
theorem Tl.blkS (h : Tl w B a i C S n sc k q0 bv s c ls x W) : ∃ cs, Blk W S 93 cs := h.O.blk ⟨_, rfl, rfl⟩
theorem Tl.blkC (h : Tl w B a i C S n sc k q0 bv s c ls x W) : ∃ cs, Blk W C 89 cs := by
  have := h.H.own
  rw [h.hC] at this
  exact this.blk ⟨_, rfl, rfl⟩
theorem Tl.lt (h : Tl w B a i C S n sc k q0 bv s c ls x W) : k < n ∧ i < s.cls.length := by
  have h1 := h.O.len
  rw [slotCs_len] at h1
  have h2 := (List.getElem?_eq_some_iff.1 h.hx).1
  exact ⟨by omega, (List.getElem?_eq_some_iff.1 h.hc).1⟩
theorem Tl.clsCell (h : Tl w B a i C S n sc k q0 bv s c ls x W) : W.cell? ⟨C, i * 4 + 2, none⟩ = some (.slice (some ⟨S, 0, none⟩) n sc) ∧ W.cell? ⟨C, i * 4 + 3, none⟩ = some (.int .i64 c.live) := by
  have ow := h.H.own
  rw [h.hC] at ow
  obtain ⟨g0, g1, g2, g3⟩ := clsCs_at h.hc
  have := h.lt
  exact ⟨by rw [ow.cell (i * 4 + 2) (by omega), g2, h.hcs.1, h.hcs.2.1, h.hcs.2.2], by rw [ow.cell (i * 4 + 3) (by omega), g3]⟩
theorem Tl.slotCell (h : Tl w B a i C S n sc k q0 bv s c ls x W) : W.cell? ⟨S, k * 4, none⟩ = some (.int .i64 x.age) ∧ W.cell? ⟨S, k * 4 + 1, none⟩ = some (.bool x.used) ∧ W.cell? ⟨S, k * 4 + 2, none⟩ = some (.int .i64 x.next) ∧ W.cell? ⟨S, k * 4 + 3, none⟩ = some (.slice x.D x.data.length x.dc) := by
  obtain ⟨g0, g1, g2, g3⟩ := slotCs_at h.hx
  have := h.lt
  exact ⟨by rw [h.O.cell (k * 4) (by omega), g0], by rw [h.O.cell (k * 4 + 1) (by omega), g1], by rw [h.O.cell (k * 4 + 2) (by omega), g2], by rw [h.O.cell (k * 4 + 3) (by omega), g3]⟩
theorem Tl.frozenC (h : Tl w B a i C S n sc k q0 bv s c ls x W) (j : Nat) : W.frozen? ⟨C, j, none⟩ = false := by
  have ow := h.H.own
  rw [h.hC] at ow
  exact ow.frozen j
theorem Tl.slot (h : Tl w B a i C S n sc k q0 bv s c ls x W) (q : Nat) (hq : q < 4) (y : Slot) (v : Value) (hy : slotC y = (slotC x).set q v) :
    Tl w B a i C S n sc k q0 bv s c (ls.set k y) y (W.setCell ⟨S, k * 4 + q, none⟩ v) := by
  obtain ⟨csS, hb⟩ := h.blkS
  have hk := (List.getElem?_eq_some_iff.1 h.hx).1
  refine ⟨h.H.kept (keepsOne W S _ v) (fun b e => .inr ?_), Own.slot h.O h.hx hq hy, by simp [hk], fun j z hj hz => ?_, h.bx.kept (keepsOne W S _ v) (fun e => absurd (blk_type h.bx (e ▸ hb)) (by decide)), h.K.step (keepsOne W S _ v) h.hS, h.dj, h.hS, h.hCw, h.hC, h.hc, h.hcs⟩
  · subst e
    exact ⟨⟨_, hb⟩, fun j d hj hd => h.dj j d hj hd⟩
  · rw [List.getElem?_set, if_neg (fun e => hj e.symm)] at hz
    have o := h.da j z hj hz
    exact o.kept (keepsOne W S _ v) (fun b hb' e => by
      obtain ⟨cs, h1⟩ := o.blk hb'
      exact absurd (blk_type h1 (e ▸ hb)) (by decide))
theorem Tl.drew (h : Tl w B a i C S n sc k q0 bv s c ls x W) : Tl w B a i C S n sc k q0 bv s c ls x W.drew :=
  ⟨h.H.quiet (Keeps.drew (Keeps.refl _ _)), h.O, h.hx, h.da, h.bx, h.K.drew, h.dj, h.hS, h.hCw, h.hC, h.hc, h.hcs⟩
/-- the count of the slots in use is written; the class is closed -/
theorem Tl.done (h : Tl w B a i C S n sc k q0 bv s c ls x W) (lv : Int) (hl : ls.length = c.slots.length) (hD : Own W B 5 1 x.D x.data.length x.dc (x.data.map by8)) :
    IsAr (W.setCell ⟨C, i * 4 + 3, none⟩ (.int .i64 lv)) B a { s with cls := s.cls.set i { c with slots := ls, live := lv } } ∧ Blk (W.setCell ⟨C, i * 4 + 3, none⟩ (.int .i64 lv)) q0 58 bv ∧
      Keeps (ArS B w) w (W.setCell ⟨C, i * 4 + 3, none⟩ (.int .i64 lv)) ∧ (W.setCell ⟨C, i * 4 + 3, none⟩ (.int .i64 lv)).cell? ⟨S, k * 4, none⟩ = some (.int .i64 x.age) := by
  obtain ⟨csC, hbC⟩ := h.blkC
  have kk := keepsOne W C (i * 4 + 3) (.int .i64 lv)
  have hno : ∀ {e sz n c : Nat} {A : Option Addr} {xs : List Value}, Own W B e sz A n c xs → 89 ≠ e → ∀ b, inB A b → ¬ b = C := fun o he b hb hS => by
    obtain ⟨cs, hb'⟩ := o.blk hb
    rw [hS] at hb'
    exact he (blk_type hbC hb')
  have h1 := h.H.cls_ (k := 3) (y := { c with slots := ls, live := lv }) h.hC h.hc (by omega) (.int .i64 lv) (by simp [clsC, hl])
  have hi := h.lt.2
  obtain ⟨csS, hbS⟩ := h.blkS
  refine ⟨h1.close (c := { c with slots := ls, live := lv }) (by simp [hi]) ⟨?_, fun j y hy => ?_, fun j d hj hd b hb => ?_⟩, h.bx.kept kk (fun e => absurd (blk_type h.bx (e ▸ hbC)) (by decide)), h.K.step kk (fun b hb e => by subst e; exact h.hCw), ?_⟩
  · have := h.O.kept kk (hno h.O (by decide))
    rw [h.hcs.1, h.hcs.2.2, show ({ c with slots := ls, live := lv } : Cls).slots.length = n from by rw [hl, h.hcs.2.1]]
    exact this
  · by_cases e : j = k
    · subst e
      have : y = x := by have := h.hx; rw [hy] at this; injection this
      subst this
      exact hD.kept kk (hno hD (by decide))
    · exact (h.da j y e hy).kept kk (hno (h.da j y e hy) (by decide))
  · rw [List.getElem?_set, if_neg (fun e => hj e.symm)] at hd
    have hb' : inB (some ⟨S, 0, none⟩ : Option Addr) b := by rw [← h.hcs.1]; exact hb
    have := (inB_some S 0 b).1 hb'
    subst this
    exact h.dj j d hj hd
  · rw [kk.cell (p := ⟨S, k * 4, none⟩) hbS.lt (fun e => absurd (blk_type hbS (e ▸ hbC)) (by decide))]
    exact h.slotCell.1
/-- the class is closed: its slots are as many as they were -/
theorem Tl.close (h : Tl w B a i C S n sc k q0 bv s c ls x W) (hl : ls.length = c.slots.length) (hD : Own W B 5 1 x.D x.data.length x.dc (x.data.map by8)) :
    IsAr W B a { s with cls := s.cls.set i { c with slots := ls } } := by
  have hi := h.lt.2
  have hcs : clsCs (s.cls.set i { c with slots := ls }) = clsCs s.cls := by
    refine List.ext_getElem? fun j => ?_
    have := clsCs_set (k := 0) (v := .int .i64 c.size) (y := { c with slots := ls }) h.hc (by omega) (by simp [clsC, hl])
    rw [← this, List.getElem?_set]
    split
    · next e => subst e; rw [show i * 4 + 0 = i * 4 from rfl, (clsCs_at h.hc).1]; simp [clsCs_len]; omega
    · rfl
  have hset : ∀ j, j ≠ i → ∀ d : Cls, (s.cls.set i { c with slots := ls })[j]? = some d → s.cls[j]? = some d := fun j hj d hd => by
    rw [List.getElem?_set, if_neg (fun e => hj e.symm)] at hd; exact hd
  have h1 : IsArH W B a { s with cls := s.cls.set i { c with slots := ls } } (· = i) := by
    refine ⟨h.H.le, ?_, ?_, fun j d hj hd => h.H.sl j d hj (hset j hj d hd), fun j d hj hd => h.H.da j d hj (hset j hj d hd), fun j q d e hj hq hjq hd he => h.H.dj j q d e hj hq hjq (hset j hj d hd) (hset q hq e he), h.H.fl⟩
    · simpa [arC] using h.H.blk
    · have := h.H.own
      simp only [List.length_set, hcs]
      exact this
  refine h1.close (c := { c with slots := ls }) (by simp [hi]) ⟨?_, fun j y hy => ?_, fun j d hj hd b hb => ?_⟩
  · have := h.O
    rw [h.hcs.1, h.hcs.2.2, show ({ c with slots := ls } : Cls).slots.length = n from by rw [hl, h.hcs.2.1]]
    exact this
  · by_cases e : j = k
    · subst e
      have : y = x := by have := h.hx; rw [hy] at this; injection this
      subst this
      exact hD
    · exact h.da j y e hy
  · rw [List.getElem?_set, if_neg (fun e => hj e.symm)] at hd
    have hb' : inB (some ⟨S, 0, none⟩ : Option Addr) b := by rw [← h.hcs.1]; exact hb
    have := (inB_some S 0 b).1 hb'
    subst this
    exact h.dj j d hj hd
end
end Go.Proofs.Ytgjlibecgkhocaa
