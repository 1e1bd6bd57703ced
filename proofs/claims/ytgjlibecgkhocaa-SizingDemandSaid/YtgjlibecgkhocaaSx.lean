/-
  The iterator over the sizes that a valid configuration allocates: 'sizing.needs'.
-/
import Derived.Test.YtgjlibecgkhocaaSy
import Derived.Test.YtgjlibecgkhocaaCfs
import Derived.RangeFuncNested
import Derived.RangeFuncBound
import Derived.RangeFuncCalls
import Derived.RangeFuncLeaves
import Derived.Shelf.Abstract
import Derived.Shelf.RegionOpen
import Derived.WalkKit
import Derived.OwnWalkIn
import Derived.TacticsInMore
import Derived.LoopNIn
import Derived.LoopIn
set_option linter.unusedVariables false
set_option linter.unusedSimpArgs false
namespace Go.Proofs.Ytgjlibecgkhocaa
open Go.RowKit Cfp
attribute [local go_sem] Oper.semAt_some

theorem Keeps.grownBy {w w' : World} (k : Keeps (fun _ => False) w w') : w.grownBy w' none :=
  ⟨k.os, k.tape, k.output, k.size, fun b hb _ => k.block b hb (fun h => h)⟩

/-- a whole configuration is loaded in one step, within a fence -/
theorem cfg_ldIn {F : Fence} {n' : Nat} {ops : Array Oper} {rest : List Oper} {o : Oper} {a : Act} {w : World} {Q : Exit → Act → World → Prop} {c : Cfg} {C T : Option Addr} {n k q j g : Nat} (x : Operand) (ho : o.op = .load 28 x)
    (hg : Blk w g 28 #[.int .i64 c.length, .int .i64 c.lateness, .int .i64 c.windows, .int .i64 c.shards, .int .i64 c.spread, .int .i64 c.queue, .int .i64 c.mode, .int .i64 c.slots, .int .i64 c.exact_, .int .u64 c.promote, .int .i64 c.depth, .int .i64 c.width, .int .i64 c.top, .int .i64 c.key, .slice C n k, .slice T q j, .int .u64 c.seed]) (hx : a.eval x = .pointer (some ⟨g, 0, none⟩)) (hw : Region.wanted o (yielded ops a.tmps) = true)
    (h : wpListIn F n' Try.prog ops Q rest (a.put o.dst (Value.agg #[.int .i64 c.length, .int .i64 c.lateness, .int .i64 c.windows, .int .i64 c.shards, .int .i64 c.spread, .int .i64 c.queue, .int .i64 c.mode, .int .i64 c.slots, .int .i64 c.exact_, .int .u64 c.promote, .int .i64 c.depth, .int .i64 c.width, .int .i64 c.top, .int .i64 c.key, .slice C n k, .slice T q j, .int .u64 c.seed])) w) : wpListIn F n' Try.prog ops Q (o :: rest) a w := by
  have hr := run_loadVar_row (P := Try.prog) w g 28 28 #[.int .i64 c.length, .int .i64 c.lateness, .int .i64 c.windows, .int .i64 c.shards, .int .i64 c.spread, .int .i64 c.queue, .int .i64 c.mode, .int .i64 c.slots, .int .i64 c.exact_, .int .u64 c.promote, .int .i64 c.depth, .int .i64 c.width, .int .i64 c.top, .int .i64 c.key, .slice C n k, .slice T q j, .int .u64 c.seed] (0, 0) _ hg Try.underlying28 rfl (by kernel_rfl)
  show if Region.wanted o (yielded ops a.tmps) then _ else _
  rw [if_pos hw]
  unfold Oper.wpIn
  refine ⟨?_, ?_⟩
  · simp [Oper.about, ho]
  · rw [Oper.semAt_plain F _ _ (by rw [ho]; intro c hc'; cases hc')]
    simp only [execOp, ho, hx, Instr.loadAt, Instr.sureAddr, Sem.run_bind, Sem.run_pure, Result.andThen_ok, hr]
    exact h

/-- every row of cells but block G is as it was -/
def KpC (G : Nat) (W W' : World) : Prop := W.heap.size ≤ W'.heap.size ∧ ∀ k o, k ≠ G → W.heap[k]? = some o → o.isCells = true → W'.heap[k]? = some o
theorem KpC.refl (G : Nat) (W : World) : KpC G W W := ⟨Nat.le_refl _, fun _ _ _ h _ => h⟩
theorem KpC.trans {G : Nat} {W W1 W2 : World} (h : KpC G W W1) (k : KpC G W1 W2) : KpC G W W2 := ⟨Nat.le_trans h.1 k.1, fun b o hb ho hc => k.2 b o hb (h.2 b o hb ho hc) hc⟩
theorem Keeps.kp {W W1 : World} (h : Keeps (fun _ => False) W W1) (G : Nat) : KpC G W W1 :=
  ⟨h.size, fun k o _ ho _ => (h.block k (Array.getElem?_eq_some_iff.1 ho).1 (fun h => h)).trans ho⟩
theorem KpC.putObj (G : Nat) (W : World) (l : Nat) (o o' : Obj) (h : W.heap[l]? = some o) (hc : o.isCells = false) : KpC G W (W.putObj l o') := by
  refine ⟨by simp [World.putObj], fun k x hk hx hxc => ?_⟩
  by_cases e : k = l
  · subst e; rw [h] at hx; cases hx; rw [hc] at hxc; cases hxc
  · exact (World.putObj_heap_other e).trans hx
theorem Blk.kp {G : Nat} {W W1 : World} {g : Nat} {t : TypeId} {cs : Array Value} (h : Blk W g t cs) (k : KpC G W W1) (hg : g ≠ G) : Blk W1 g t cs := k.2 g _ hg h rfl
theorem KpC.cell {G : Nat} {W W1 : World} (k : KpC G W W1) {p : Addr} {v : Value} (h : W.cell? p = some v) (hp : p.block ≠ G) : W1.cell? p = some v := by
  have hlt := block_lt_of_cell h
  have ho : W.heap[p.block]? = some W.heap[p.block] := by simp [hlt]
  have hc : W.heap[p.block].isCells = true := by
    cases e : W.heap[p.block] <;> (first | rfl | (simp [World.cell?, ho, e] at h))
  have := k.2 _ _ hp ho hc
  rw [World.cell?_of_block (this.trans ho.symm)]
  exact h
theorem Rd.kp {G B sz n : Nat} {A : Option Addr} {xs : List Value} {W W1 : World} (h : Rd W B A sz n xs) (k : KpC G W W1) (hG : B ≤ G) : Rd W1 B A sz n xs :=
  ⟨h.1, fun hn => by obtain ⟨b, off, e, hb, hc⟩ := h.2 hn; exact ⟨b, off, e, hb, fun j u hu => k.cell (hc j u hu) (by show b ≠ G; omega)⟩⟩

/-- the numbers of a pair, as yield's arguments -/
abbrev pairV (x : Int × Int) : Array Value := #[.int .i64 x.1, .int .i64 x.2]

theorem keysL_step (key t ls : Int) (x : Int × Int) (l : List (Int × Int)) (h : ls ≤ key) : keysL key t ls (x :: l) = (ls, t) :: keysL key t (x.1 + 1) l := by
  rw [keysL, if_neg (by omega)]
theorem keysL_stop (key t ls : Int) (x : Int × Int) (l : List (Int × Int)) (h : key < ls) : keysL key t ls (x :: l) = [] := by
  rw [keysL, if_pos h]

set_option maxRecDepth 100000 in
set_option maxHeartbeats 4000000 in
theorem needs1_in (F : Fence) (n' : Nat) (hf : F.fn 59) (hft : F.fn 31) (hro : F.round = none) (hn : 1 ≤ n') (G lp X B : Nat) (c : Cfg) (h : Fine c) (l : List (Int × Int)) (hlb : ∀ c ∈ l, 1 ≤ c.1 ∧ c.1 ≤ 4096 ∧ 0 ≤ c.2 ∧ c.2 ≤ 65536) (C T : Option Addr) (n k j : Nat) (W : World)
    (hn8 : n ≤ 8) (hSX : X ≠ G) (hSB : B ≤ G) (hGW : G < W.heap.size) (hB : B ≤ W.heap.size)
    (hT : ∀ W', Rd W' B C 2 n (clv l) → B ≤ W'.heap.size → CallsIn F (n' - 1) Try.prog 31 #[Value.agg #[.int .i64 c.length, .int .i64 c.lateness, .int .i64 c.windows, .int .i64 c.shards, .int .i64 c.spread, .int .i64 c.queue, .int .i64 c.mode, .int .i64 c.slots, .int .i64 c.exact_, .int .u64 c.promote, .int .i64 c.depth, .int .i64 c.width, .int .i64 c.top, .int .i64 c.key, .slice C n k, .slice T 16 j, .int .u64 c.seed]] W' fun e W'' => e = .returned (.int .i64 (tracked0 c)) ∧ Keeps (fun _ => False) W' W'')
    (hb : Blk W X 28 #[.int .i64 c.length, .int .i64 c.lateness, .int .i64 c.windows, .int .i64 c.shards, .int .i64 c.spread, .int .i64 c.queue, .int .i64 c.mode, .int .i64 c.slots, .int .i64 c.exact_, .int .u64 c.promote, .int .i64 c.depth, .int .i64 c.width, .int .i64 c.top, .int .i64 c.key, .slice C n k, .slice T 16 j, .int .u64 c.seed]) (hr : Rd W B C 2 n (clv l)) (J Jx : List (Int × Int) → World → Prop) (hJ : ∀ s W1 W2, J s W1 → Keeps (fun _ => False) W1 W2 → J s W2)
    (hY : ∀ pre x W1, J pre W1 → pre.length < (needs c l).length → YieldAt F (n' - 1) Try.prog lp (pairV x) W1 fun e W' =>
      (e = .returned (.bool true) ∧ J (pre ++ [x]) W' ∧ KpC G W1 W') ∨ (e = .returned (.bool false) ∧ Jx (pre ++ [x]) W')) (h0 : J [] W) :
    CallsIn F n' Try.prog 59 #[.func (.yield lp) #[] #[], .pointer (some ⟨X, 0, none⟩)] W fun e W' => (∃ v, e = .returned v) ∧
      ((∃ ys, ys = needs c l ∧ J ys W') ∨ (∃ pre, pre <+: needs c l ∧ Jx pre W')) := by
  have hlen : l.length = n := by have := hr.1; rw [clv_len] at this; omega
  have hsw := h.sw
  have hswd := h.swd
  have hsq := h.sq
  have htr := h.tr
  have hwd := h.width
  have hky := h.key
  have hw1 : IntKind.i64.wrap (c.shards * c.queue) = c.shards * c.queue := IntWalk.i64_in _ (by omega)
  have hw2 : IntKind.i64.wrap (c.shards * c.windows) = c.shards * c.windows := IntWalk.i64_in _ (by omega)
  have hw3 : IntKind.i64.wrap (c.shards * c.windows * c.depth) = c.shards * c.windows * c.depth := IntWalk.i64_in _ (by omega)
  have hw4 : IntKind.i64.wrap (8 * c.width) = 8 * c.width := IntWalk.i64_in _ (by omega)
  have hw5 : IntKind.i64.wrap (tracked0 c + c.shards * c.queue) = tracked0 c + c.shards * c.queue := IntWalk.i64_in _ (by omega)
  have HN := hide (show needs c l = (8 * c.width, c.shards * c.windows * c.depth) :: (32, tracked0 c) :: (24, c.shards * c.queue) :: keysL c.key (tracked0 c + c.shards * c.queue) 1 l from rfl)
  obtain ⟨NL, hNL⟩ : ∃ NL, NL = needs c l := ⟨_, rfl⟩
  rw [← hNL] at hY HN ⊢
  have HT := hide hT
  have HY := hide hY
  have HJ := hide hJ
  have HR := hide hr
  have HX := hide hb
  have HC := hide hlb
  have HLn := hide hlen
  have HSX := hide hSX
  have HSB := hide hSB
  obtain ⟨tr, htre⟩ : ∃ tr, tr = tracked0 c := ⟨_, rfl⟩
  rw [← htre] at HT HN hw5 htr
  have q3 : W.cell? ⟨X, 3, none⟩ = some (.int .i64 c.shards) := hb.cell 3
  have q5 : W.cell? ⟨X, 5, none⟩ = some (.int .i64 c.queue) := hb.cell 5
  have q2 : W.cell? ⟨X, 2, none⟩ = some (.int .i64 c.windows) := hb.cell 2
  have q11 : W.cell? ⟨X, 11, none⟩ = some (.int .i64 c.width) := hb.cell 11
  have q10 : W.cell? ⟨X, 10, none⟩ = some (.int .i64 c.depth) := hb.cell 10
  have H0 := hide h0
  have hN0 : 0 < NL.length := by rw [HN.out]; simp
  have hN1 : 1 < NL.length := by rw [HN.out]; simp
  have hN2 : 2 < NL.length := by rw [HN.out]; simp
  have HP1 := hide (show [(8 * c.width, c.shards * c.windows * c.depth)] <+: NL by rw [HN.out]; exact ⟨_, rfl⟩)
  have HP2 := hide (show [(8 * c.width, c.shards * c.windows * c.depth), (32, tr)] <+: NL by rw [HN.out]; exact ⟨_, rfl⟩)
  have HP3 := hide (show [(8 * c.width, c.shards * c.windows * c.depth), (32, tr), (24, c.shards * c.queue)] <+: NL by rw [HN.out]; exact ⟨_, rfl⟩)
  clear hJ hb hr hlb hlen hSX hSB hT hY hNL htre h0 h
  refine callsIn_of_wp Try.func59 rfl hf ?_ hro
  simp only [Try.ntmps59, List.size_toArray, List.length_cons, List.length_nil, Nat.reduceAdd, Nat.reduceSub, Array.replicate_succ, Array.replicate_zero, List.push_toArray, List.append_toArray, List.nil_append, List.cons_append]
  obtain ⟨fn, tmps, assign, body, hy, hR⟩ := HY.out [] (8 * c.width, c.shards * c.windows * c.depth) W H0.out (by simpa using hN0)
  dsimp only [pairV] at hy
  have HRd := hide hR
  clear hR
  gi_wp2
  refine HRd.out.mono ?_
  rintro e W1 (⟨rfl, hJ1, hk1⟩ | ⟨rfl, hJx1⟩)
  rotate_left
  · clear hy HRd
    gi_wp2
    all_goals (repeat (refine ⟨fun _ h => (by cases h), ?_⟩; gi_wp2))
    refine bodyPost_ret (results_none rfl _ _ _) rfl ?_
    exact ⟨⟨_, rfl⟩, .inr ⟨_, HP1.out, hJx1⟩⟩
  have J1 := hide hJ1
  have X1 := hide (HX.out.kp hk1 HSX.out)
  have R1 := hide (HR.out.kp hk1 HSB.out)
  have hB1 : B ≤ W1.heap.size := Nat.le_trans hB hk1.1
  have hG1 : G < W1.heap.size := Nat.lt_of_lt_of_le hGW hk1.1
  clear hy HRd hJ1 q3 q5 q2 q11 q10 HX HR H0
  trace "SECOND"
  gi_wp2_with (first | (refine cfg_ldIn _ rfl X1.out rfl (by rfl) ?_; simp only [Act.put, List.setIfInBounds_toArray, List.set_cons_zero, List.set_cons_succ]))
  trace "CALL"
  refine (HT.out W1 R1.out hB1).mono ?_
  rintro e W2 ⟨rfl, hk2⟩
  obtain ⟨fn, tmps, assign, body, hy, hR⟩ := HY.out [(8 * c.width, c.shards * c.windows * c.depth)] (32, tr) W2 (HJ.out _ _ _ J1.out hk2) (by simpa using hN1)
  dsimp only [pairV] at hy
  have HRd := hide hR
  have X2 := hide (X1.out.kept hk2 (fun h => h))
  have R2 := hide (R1.out.kept hk2 (fun _ _ h => h))
  have hB2 : B ≤ W2.heap.size := Nat.le_trans hB1 hk2.size
  have hG2 : G < W2.heap.size := Nat.lt_of_lt_of_le hG1 hk2.size
  clear hR X1 R1 J1 hk2 hk1
  gi_wp2
  refine HRd.out.mono ?_
  rintro e W3 (⟨rfl, hJ1, hk1⟩ | ⟨rfl, hJx1⟩)
  rotate_left
  · clear hy HRd
    gi_wp2
    all_goals (repeat (refine ⟨fun _ h => (by cases h), ?_⟩; gi_wp2))
    refine bodyPost_ret (results_none rfl _ _ _) rfl ?_
    exact ⟨⟨_, rfl⟩, .inr ⟨_, HP2.out, hJx1⟩⟩
  have J3 := hide hJ1
  have X3 := hide (X2.out.kp hk1 HSX.out)
  have R3 := hide (R2.out.kp hk1 HSB.out)
  have hB3 : B ≤ W3.heap.size := Nat.le_trans hB2 hk1.1
  have hG3 : G < W3.heap.size := Nat.lt_of_lt_of_le hG2 hk1.1
  clear hy HRd hJ1 X2 R2
  trace "THIRD"
  obtain ⟨fn, tmps, assign, body, hy, hR⟩ := HY.out [(8 * c.width, c.shards * c.windows * c.depth), (32, tr)] (24, c.shards * c.queue) W3 J3.out (by simpa using hN2)
  dsimp only [pairV] at hy
  have HRd := hide hR
  clear hR hk1 J3
  gi_wp2
  refine HRd.out.mono ?_
  rintro e W4 (⟨rfl, hJ1, hk1⟩ | ⟨rfl, hJx1⟩)
  rotate_left
  · clear hy HRd
    gi_wp2
    all_goals (repeat (refine ⟨fun _ h => (by cases h), ?_⟩; gi_wp2))
    refine bodyPost_ret (results_none rfl _ _ _) rfl ?_
    exact ⟨⟨_, rfl⟩, .inr ⟨_, HP3.out, hJx1⟩⟩
  have J4 := hide hJ1
  have X4 := hide (X3.out.kp hk1 HSX.out)
  have R4 := hide (R3.out.kp hk1 HSB.out)
  have hB4 : B ≤ W4.heap.size := Nat.le_trans hB3 hk1.1
  have hG4 : G < W4.heap.size := Nat.lt_of_lt_of_le hG3 hk1.1
  have q14 : W4.cell? ⟨X, 14, none⟩ = some (.slice C n k) := X4.out.cell 14
  clear hy HRd hJ1 X3 R3 hk1
  trace "LOOP"
  gi_wp2
  gi_loopw [4, 6, 42] (fun lv _ iv wr => ∃ (i : Nat) (ls : Int) (pre : List (Int × Int)), i ≤ n ∧ iv = .int .i64 i ∧ lv = .int .i64 ls ∧ 1 ≤ ls ∧ ls ≤ 4097 ∧ Hid (pre ++ keysL c.key (tr + c.shards * c.queue) ls (l.drop i) = NL) ∧ Hid (J pre wr) ∧ Hid (KpC G W4 wr)) (fun _ _ iv _ => n - (intOf iv).toNat)
  case atStart => exact ⟨0, 1, [(8 * c.width, c.shards * c.windows * c.depth), (32, tr), (24, c.shards * c.queue)], by omega, rfl, rfl, by omega, by omega, by show _ = _; rw [HN.out]; rfl, J4, hide (KpC.refl _ _)⟩
  case round =>
    obtain ⟨i, ls, pre, hi, rfl, rfl, hl1, hl2, HPr, HJr, HKr⟩ := hrel
    clear J4 q14
    by_cases hlt : i < n
    · have HLT : Hid (i + 1 ≤ n) := hlt
      have hil : i < l.length := by rw [HLn.out]; exact hlt
      obtain ⟨x, hx⟩ : ∃ x, l[i]? = some x := ⟨l[i]'hil, by simp⟩
      have hbx := HC.out x (List.mem_of_getElem? hx)
      have Rr := hide (R4.out.kp HKr.out HSB.out)
      obtain ⟨b, off, rfl, hbB, hcell⟩ := Rr.out.2 (by omega)
      obtain ⟨g1, g2⟩ := clv_at l i x hx
      have f1 := hcell _ _ g1
      have f2 := hcell _ _ g2
      rw [← Nat.add_assoc] at f2
      have hDr := hide (show l.drop i = x :: l.drop (i + 1) by
        rw [List.drop_eq_getElem_cons hil]
        congr 1
        have := List.getElem?_eq_getElem hil
        rw [hx] at this
        exact (Option.some.inj this).symm)
      have Xr := hide (X4.out.kp HKr.out HSX.out)
      have ka := (Keeps.refl (fun _ => False) wr).alloc (.cells #[.int .i64 x.1, .int .i64 x.2] 46)
      have Xa := hide (Xr.out.kept ka (fun h => h))
      have Ra := hide (Rr.out.kept ka (fun _ _ h => h))
      have Ja := hide (HJ.out _ _ _ HJr.out ka)
      have hsz : B ≤ wr.heap.size := Nat.le_trans hB4 HKr.out.1
      have hGr : wr.heap.size ≠ G := by have := HKr.out.1; omega
      have q13 : (wr.alloc (.cells #[.int .i64 x.1, .int .i64 x.2] 46)).cell? ⟨X, 13, none⟩ = some (.int .i64 c.key) := Xa.out.cell 13
      have hba : B ≤ (wr.alloc (.cells #[.int .i64 x.1, .int .i64 x.2] 46)).heap.size := Nat.le_trans hsz ka.size
      have ba := Blk.new wr 46 #[.int .i64 x.1, .int .i64 x.2]
      have Ba := hide ba
      have HKa := hide (HKr.out.trans (ka.kp G))
      have hiI : (i : Int) < (n : Int) := by omega
      have hi0 : (0 : Int) ≤ (i : Int) := by omega
      clear hcell g1 g2 hx ka Xr Rr HJr HKr ba
      by_cases hk : c.key < ls
      · gi_wp2
        all_goals (repeat (refine ⟨fun _ h => (by cases h), ?_⟩; gi_wp2))
        refine bodyPost_ret (results_none rfl _ _ _) rfl ?_
        exact ⟨⟨_, rfl⟩, .inl ⟨_, rfl, by rw [← HPr.out, hDr.out, keysL_stop _ _ _ _ _ hk, List.append_nil]; exact Ja.out⟩⟩
      · trace "ROUND"
        have hkd : decide (c.key < ls) = false := by simpa using hk
        gi_wp2_with (first | (refine cfg_ldIn _ rfl Xa.out rfl (by rfl) ?_; simp only [Act.put, List.setIfInBounds_toArray, List.set_cons_zero, List.set_cons_succ]))
        trace "TRACKED"
        refine (HT.out _ Ra.out hba).mono ?_
        rintro e W5 ⟨rfl, hk5⟩
        have hN5 : Hid ((pre ++ [(ls, tr + c.shards * c.queue)]) ++ keysL c.key (tr + c.shards * c.queue) (x.1 + 1) (l.drop (i + 1)) = NL) := by
          show _ = _
          rw [← HPr.out, hDr.out, keysL_step _ _ _ _ _ (by omega)]; simp
        have hL5 : pre.length < NL.length := by rw [← hN5.out]; simp
        obtain ⟨fn, tmps, assign, body, hy, hR⟩ := HY.out pre (ls, tr + c.shards * c.queue) W5 (HJ.out _ _ _ Ja.out hk5) hL5
        dsimp only [pairV] at hy
        have HRd := hide hR
        have X5 := hide (Xa.out.kept hk5 (fun h => h))
        have R5 := hide (Ra.out.kept hk5 (fun _ _ h => h))
        have B5 := hide (Ba.out.kept hk5 (fun h => h))
        have HK5 := hide (HKa.out.trans (hk5.kp G))
        clear hR Xa Ra Ja Ba HKa hk5 q13 f1 f2
        gi_wp2
        refine HRd.out.mono ?_
        rintro e W6 (⟨rfl, hJ6, hk6⟩ | ⟨rfl, hJx6⟩)
        rotate_left
        · clear hy HRd
          gi_wp2
          all_goals (repeat (refine ⟨fun _ h => (by cases h), ?_⟩; gi_wp2))
          refine bodyPost_ret (results_none rfl _ _ _) rfl ?_
          exact ⟨⟨_, rfl⟩, .inr ⟨_, by rw [← hN5.out]; exact ⟨_, rfl⟩, hJx6⟩⟩
        · have hgG : wr.heap.size ≠ G := hGr
          have B6 := hide (B5.out.kp hk6 hgG)
          have HK6 := hide (HK5.out.trans hk6)
          have HJ6 := hide hJ6
          have q0 : W6.cell? ⟨wr.heap.size, 0, none⟩ = some (.int .i64 x.1) := B6.out.cell 0
          have hw6 : IntKind.i64.wrap (x.1 + 1) = x.1 + 1 := IntWalk.i64_in _ (by omega)
          clear hy HRd hJ6 hk6 B5 HK5 X5 R5
          gi_wp2
          go_roundw
          case rel => exact ⟨i + 1, x.1 + 1, _, HLT.out, by go_num, rfl, by omega, by omega, hN5, HJ6, HK6⟩
          case measure => have := HLT.out; simp [intOf]; omega
    · obtain rfl : i = n := by omega
      gi_wp2
      go_end0
      exact ⟨⟨_, rfl⟩, .inl ⟨_, rfl, by rw [← HPr.out, List.drop_of_length_le (by rw [HLn.out]; omega), keysL, List.append_nil]; exact HJr.out⟩⟩
end Go.Proofs.Ytgjlibecgkhocaa
