/-
  sizing.Demand of a valid configuration gives the exact numbers.
-/
import Derived.Test.YtgjlibecgkhocaaSx
import Derived.Test.YtgjlibecgkhocaaCft
import Derived.RangeFuncFrom
set_option linter.unusedVariables false
set_option linter.unusedSimpArgs false
namespace Go.Proofs.Ytgjlibecgkhocaa
open Go.RowKit Cfp
attribute [local go_sem] Oper.semAt_some

theorem needs_stops (F : Fence) (n' : Nat) (hf : F.fn 59) (hft : F.fn 31) (hro : F.round = none) (hn : 1 ≤ n') (G X B : Nat) (c : Cfg) (h : Fine c) (l : List (Int × Int)) (hlb : ∀ c ∈ l, 1 ≤ c.1 ∧ c.1 ≤ 4096 ∧ 0 ≤ c.2 ∧ c.2 ≤ 65536) (C T : Option Addr) (n k j : Nat) (W : World)
    (hn8 : n ≤ 8) (hSX : X ≠ G) (hSB : B ≤ G) (hGW : G < W.heap.size)
    (hT : ∀ W', Rd W' B C 2 n (clv l) → B ≤ W'.heap.size → CallsIn F (n' - 1) Try.prog 31 #[Value.agg #[.int .i64 c.length, .int .i64 c.lateness, .int .i64 c.windows, .int .i64 c.shards, .int .i64 c.spread, .int .i64 c.queue, .int .i64 c.mode, .int .i64 c.slots, .int .i64 c.exact_, .int .u64 c.promote, .int .i64 c.depth, .int .i64 c.width, .int .i64 c.top, .int .i64 c.key, .slice C n k, .slice T 16 j, .int .u64 c.seed]] W' fun e W'' => e = .returned (.int .i64 (tracked0 c)) ∧ Keeps (fun _ => False) W' W'')
    (hb : Blk W X 28 #[.int .i64 c.length, .int .i64 c.lateness, .int .i64 c.windows, .int .i64 c.shards, .int .i64 c.spread, .int .i64 c.queue, .int .i64 c.mode, .int .i64 c.slots, .int .i64 c.exact_, .int .u64 c.promote, .int .i64 c.depth, .int .i64 c.width, .int .i64 c.top, .int .i64 c.key, .slice C n k, .slice T 16 j, .int .u64 c.seed]) (hr : Rd W B C 2 n (clv l)) :
    SeqStopsK F n' Try.prog 59 #[.pointer (some ⟨X, 0, none⟩)] pairV (KpC G) (· = needs c l) (· <+: needs c l) (needs c l).length W := by
  intro lp J Jx W1 hW hJ hJx hY h0
  have hX : X < W.heap.size := hb.lt
  refine needs1_in F n' hf hft hro hn G lp X B c h l hlb C T n k j W1 hn8 hSX hSB (Nat.lt_of_lt_of_le hGW hW.size) (by have := hW.size; omega) hT ((hW.block X hX).trans hb) (hr.keep fun b off hb => hW.cell (p := ⟨b, off, none⟩) (by show b < W.heap.size; omega)) J Jx
    (fun s Wa Wb hs hk => hJ s Wa Wb none hs hk.grownBy (fun r e => by cases e)) hY h0

theorem needs_in (F : Fence) (n' : Nat) (hf : F.fn 52) (hro : F.round = none) (c : Cfg) (C T : Option Addr) (n k q j : Nat) (w : World) :
    CallsIn F n' Try.prog 52 #[Value.agg #[.int .i64 c.length, .int .i64 c.lateness, .int .i64 c.windows, .int .i64 c.shards, .int .i64 c.spread, .int .i64 c.queue, .int .i64 c.mode, .int .i64 c.slots, .int .i64 c.exact_, .int .u64 c.promote, .int .i64 c.depth, .int .i64 c.width, .int .i64 c.top, .int .i64 c.key, .slice C n k, .slice T q j, .int .u64 c.seed]] w fun e w' => e = .returned (.func (.func 59) #[] #[.pointer (some ⟨w.heap.size, 0, none⟩)]) ∧ w' = w.alloc (.cells #[.int .i64 c.length, .int .i64 c.lateness, .int .i64 c.windows, .int .i64 c.shards, .int .i64 c.spread, .int .i64 c.queue, .int .i64 c.mode, .int .i64 c.slots, .int .i64 c.exact_, .int .u64 c.promote, .int .i64 c.depth, .int .i64 c.width, .int .i64 c.top, .int .i64 c.key, .slice C n k, .slice T q j, .int .u64 c.seed] 28) := by
  refine callsIn_of_wp Try.func52 rfl hf ?_ hro
  simp only [Try.ntmps52, List.size_toArray, List.length_cons, List.length_nil, Nat.reduceAdd, Nat.reduceSub, Array.replicate_succ, Array.replicate_zero, List.push_toArray, List.append_toArray, List.nil_append, List.cons_append]
  gi_wp2
  go_ret
  exact ⟨rfl, rfl⟩

/-- between two rounds of Demand's loop -/
structure DI (w : World) (X G O B n k j : Nat) (c : Cfg) (l : List (Int × Int)) (C T : Option Addr) (pre : List (Int × Int)) (W : World) : Prop where
  nums : Nums W G (pre.foldl (giveW l) (List.replicate n 0))
  ob : Blk W O 22 #[.slice (some ⟨G, 0, none⟩) n n]
  bx : Blk W X 28 #[.int .i64 c.length, .int .i64 c.lateness, .int .i64 c.windows, .int .i64 c.shards, .int .i64 c.spread, .int .i64 c.queue, .int .i64 c.mode, .int .i64 c.slots, .int .i64 c.exact_, .int .u64 c.promote, .int .i64 c.depth, .int .i64 c.width, .int .i64 c.top, .int .i64 c.key, .slice C n k, .slice T 16 j, .int .u64 c.seed]
  rd : Rd W B C 2 n (clv l)
  kp : Keeps (fun _ => False) w W
theorem DI.own {w : World} {X G O B n k j Bz : Nat} {c : Cfg} {l : List (Int × Int)} {C T : Option Addr} (hz : w.heap.size ≤ Bz) : OwnFrom Bz (DI w X G O B n k j c l C T) := by
  intro s Wa Wb row hs hg hr
  have hk : ∀ Z, KpC Z Wa Wb := fun Z => ⟨hg.size, fun b o hb ho hc => (hg.block b (Array.getElem?_eq_some_iff.1 ho).1 (fun e => by
    obtain ⟨o', ho', hc'⟩ := (hr b e.symm).2
    rw [ho] at ho'; cases ho'; rw [hc] at hc'; cases hc')).trans ho⟩
  exact ⟨Blk.kp hs.nums (hk (G + 1)) (by omega), hs.ob.kp (hk (O + 1)) (by omega), hs.bx.kp (hk (X + 1)) (by omega), hs.rd.kp (hk B) (Nat.le_refl _), hs.kp.grown hg (fun b e hb => by have := (hr b e).1; omega)⟩
theorem DI.quiet {w W W' : World} {X G O B n k j : Nat} {c : Cfg} {l : List (Int × Int)} {C T : Option Addr} {pre : List (Int × Int)} (h : DI w X G O B n k j c l C T pre W) (kk : Keeps (fun _ => False) W W') : DI w X G O B n k j c l C T pre W' :=
  ⟨h.nums.kept kk (fun h => h), h.ob.kept kk (fun h => h), h.bx.kept kk (fun h => h), h.rd.kept kk (fun _ _ h => h), h.kp.trans kk⟩
theorem DI.put {w W : World} {X G O B n k j i : Nat} {c : Cfg} {l : List (Int × Int)} {C T : Option Addr} {pre : List (Int × Int)} (h : DI w X G O B n k j c l C T pre W) (hG : w.heap.size ≤ G) (hX : X ≠ G) (hO : O ≠ G) (hB : B ≤ w.heap.size) (x : Int × Int) (hi : i = fit l x.1) (y : Int)
    (hy : y = IntKind.i64.wrap ((pre.foldl (giveW l) (List.replicate n 0)).getD i 0 + x.2)) : DI w X G O B n k j c l C T (pre ++ [x]) (W.setCell ⟨G, i, none⟩ (.int .i64 y)) := by
  have kS : Keeps (· = G) W (W.setCell ⟨G, i, none⟩ (.int .i64 y)) := Keeps.setCell (S := (· = G)) (p := ⟨G, i, none⟩) (Keeps.refl _ _) (.inl rfl) _
  refine ⟨?_, h.ob.kept kS hO, h.bx.kept kS hX, h.rd.kept kS (fun b hb => by omega), h.kp.setCell (p := ⟨G, i, none⟩) (.inr hG) _⟩
  rw [List.foldl_append, List.foldl_cons, List.foldl_nil]
  subst hi hy
  have hn := h.nums
  generalize pre.foldl (giveW l) (List.replicate n 0) = zs at hn ⊢
  have := Blk.set hn (fit l x.1) (.int .i64 (IntKind.i64.wrap (zs.getD (fit l x.1) 0 + x.2)))
  unfold Nums giveW addAtW
  simpa [List.map_set] using this
theorem KpC.setCell (G : Nat) (W : World) (i : Nat) (v : Value) : KpC G W (W.setCell ⟨G, i, none⟩ v) := by
  refine ⟨by simp [World.setCell], fun k o hk ho hc => ?_⟩
  exact (Below.heap_setCell W ⟨G, i, none⟩ v k (by exact hk)).trans ho
theorem Keeps.others {W W' : World} (h : Keeps (fun _ => False) W W') : KeepsOthers W W' :=
  ⟨h.size, fun k o hk _ => (h.block k (Array.getElem?_eq_some_iff.1 hk).1 (fun h => h)).trans hk⟩

set_option maxRecDepth 100000 in
set_option maxHeartbeats 4000000 in
theorem sdemand_in (F : Fence) (n' : Nat) (hro : F.round = none) (hn : 4 ≤ n') (hfD : F.fn 29) (hfC : F.fn 25) (hfN : F.fn 52) (hft : F.fn 31) (hf1 : F.fn 59) (c : Cfg) (h : Fine c) (l : List (Int × Int)) (hl : classesE l = 0) (hm : Room c l) (C T : Option Addr) (n k j B : Nat) (w : World)
    (hC : ∀ W', Rd W' B C 2 n (clv l) → B ≤ W'.heap.size → CallsIn F (n' - 1) Try.prog 25 #[Value.agg #[.int .i64 c.length, .int .i64 c.lateness, .int .i64 c.windows, .int .i64 c.shards, .int .i64 c.spread, .int .i64 c.queue, .int .i64 c.mode, .int .i64 c.slots, .int .i64 c.exact_, .int .u64 c.promote, .int .i64 c.depth, .int .i64 c.width, .int .i64 c.top, .int .i64 c.key, .slice C n k, .slice T 16 j, .int .u64 c.seed]] W' fun e W'' => e = .returned (.int .i64 0) ∧ Keeps (fun _ => False) W' W'')
    (hT : ∀ W', Rd W' B C 2 n (clv l) → B ≤ W'.heap.size → CallsIn F (n' - 1 - 1) Try.prog 31 #[Value.agg #[.int .i64 c.length, .int .i64 c.lateness, .int .i64 c.windows, .int .i64 c.shards, .int .i64 c.spread, .int .i64 c.queue, .int .i64 c.mode, .int .i64 c.slots, .int .i64 c.exact_, .int .u64 c.promote, .int .i64 c.depth, .int .i64 c.width, .int .i64 c.top, .int .i64 c.key, .slice C n k, .slice T 16 j, .int .u64 c.seed]] W' fun e W'' => e = .returned (.int .i64 (tracked0 c)) ∧ Keeps (fun _ => False) W' W'')
    (hr : Rd w B C 2 n (clv l)) (hB : B ≤ w.heap.size) :
    CallsIn F n' Try.prog 29 #[Value.agg #[.int .i64 c.length, .int .i64 c.lateness, .int .i64 c.windows, .int .i64 c.shards, .int .i64 c.spread, .int .i64 c.queue, .int .i64 c.mode, .int .i64 c.slots, .int .i64 c.exact_, .int .u64 c.promote, .int .i64 c.depth, .int .i64 c.width, .int .i64 c.top, .int .i64 c.key, .slice C n k, .slice T 16 j, .int .u64 c.seed]] w (Demands w n (demand0 c l)) := by
  have h1 : 1 ≤ n' := by omega
  have hlen : l.length = n := by have := hr.1; rw [clv_len] at this; omega
  obtain ⟨⟨n0, n1⟩, hlb⟩ := classes_bd l hl
  have hmk := fun w => run_makeI n (by omega) w
  have HC := hide hC
  have HT := hide hT
  have HR := hide hr
  have HLb := hide hlb
  have HLn := hide hlen
  have HF := hide h
  have HND := hide (needs_wrapped c h l hl hm)
  have hn8 : n ≤ 8 := by omega
  have b1 := Blk.new w 28 #[.int .i64 c.length, .int .i64 c.lateness, .int .i64 c.windows, .int .i64 c.shards, .int .i64 c.spread, .int .i64 c.queue, .int .i64 c.mode, .int .i64 c.slots, .int .i64 c.exact_, .int .u64 c.promote, .int .i64 c.depth, .int .i64 c.width, .int .i64 c.top, .int .i64 c.key, .slice C n k, .slice T 16 j, .int .u64 c.seed]
  have k1 := (Keeps.refl (fun _ => False) w).alloc (.cells #[.int .i64 c.length, .int .i64 c.lateness, .int .i64 c.windows, .int .i64 c.shards, .int .i64 c.spread, .int .i64 c.queue, .int .i64 c.mode, .int .i64 c.slots, .int .i64 c.exact_, .int .u64 c.promote, .int .i64 c.depth, .int .i64 c.width, .int .i64 c.top, .int .i64 c.key, .slice C n k, .slice T 16 j, .int .u64 c.seed] 28)
  have B1 := hide b1
  have K1 := hide k1
  clear hC hT hr hlb hlen hl hm h n0 n1 b1 k1
  refine callsIn_of_wp_marks Try.func29 rfl hfD ?_ hro
  simp only [Try.ntmps29, List.size_toArray, List.length_cons, List.length_nil, Nat.reduceAdd, Nat.reduceSub, Array.replicate_succ, Array.replicate_zero, List.push_toArray, List.append_toArray, List.nil_append, List.cons_append]
  gi_wp2_with (first | (refine cfg_ldIn _ rfl B1.out rfl (by rfl) ?_; simp only [Act.put, List.setIfInBounds_toArray, List.set_cons_zero, List.set_cons_succ]))
  trace "CHECK"
  refine (HC.out _ (HR.out.kept K1.out (fun _ _ h => h)) (Nat.le_trans hB K1.out.size)).mono ?_
  rintro e w2 ⟨rfl, k2⟩
  have K2 := hide (K1.out.trans k2)
  have B2 := hide (B1.out.kept k2 (fun h => h))
  have hX2 : w.heap.size < w2.heap.size := B2.out.lt
  have q14 : w2.cell? ⟨w.heap.size, 14, none⟩ = some (.slice C n k) := B2.out.cell 14
  obtain ⟨G, hG⟩ : ∃ G, G = w2.heap.size := ⟨_, rfl⟩
  have b3 : Blk ((w2.alloc (.cells (List.replicate n (.int .i64 0)).toArray 3)).alloc (.cells #[.slice (some ⟨w2.heap.size, 0, none⟩) n n] 22)) w.heap.size 28 #[.int .i64 c.length, .int .i64 c.lateness, .int .i64 c.windows, .int .i64 c.shards, .int .i64 c.spread, .int .i64 c.queue, .int .i64 c.mode, .int .i64 c.slots, .int .i64 c.exact_, .int .u64 c.promote, .int .i64 c.depth, .int .i64 c.width, .int .i64 c.top, .int .i64 c.key, .slice C n k, .slice T 16 j, .int .u64 c.seed] := (B2.out.alloc _).alloc _
  have B3 := hide b3
  clear k2 K1 B1 b3
  gi_wp2_with (first | (refine cfg_ldIn _ rfl B3.out rfl (by rfl) ?_; simp only [Act.put, List.setIfInBounds_toArray, List.set_cons_zero, List.set_cons_succ]))
  trace "NEEDS"
  refine (needs_in F (n' - 1) hfN hro c C T n k 16 j _).mono ?_
  rintro e w4 ⟨rfl, hw4⟩
  have hz4 : w4.heap.size = w2.heap.size + 1 + 1 + 1 := by rw [hw4]; simp
  have D4 : Hid (DI w w.heap.size w2.heap.size (w2.heap.size + 1) B n k j c l C T [] w4) := by
    have ka := (Keeps.refl (fun _ => False) w2).alloc (.cells (Array.replicate n (.int .i64 0)) 3)
    have kb := ka.alloc (.cells #[.slice (some ⟨w2.heap.size, 0, none⟩) n n] 22)
    have kc := kb.alloc (.cells #[.int .i64 c.length, .int .i64 c.lateness, .int .i64 c.windows, .int .i64 c.shards, .int .i64 c.spread, .int .i64 c.queue, .int .i64 c.mode, .int .i64 c.slots, .int .i64 c.exact_, .int .u64 c.promote, .int .i64 c.depth, .int .i64 c.width, .int .i64 c.top, .int .i64 c.key, .slice C n k, .slice T 16 j, .int .u64 c.seed] 28)
    have hw4' : w4 = ((w2.alloc (.cells (Array.replicate n (.int .i64 0)) 3)).alloc (.cells #[.slice (some ⟨w2.heap.size, 0, none⟩) n n] 22)).alloc (.cells #[.int .i64 c.length, .int .i64 c.lateness, .int .i64 c.windows, .int .i64 c.shards, .int .i64 c.spread, .int .i64 c.queue, .int .i64 c.mode, .int .i64 c.slots, .int .i64 c.exact_, .int .u64 c.promote, .int .i64 c.depth, .int .i64 c.width, .int .i64 c.top, .int .i64 c.key, .slice C n k, .slice T 16 j, .int .u64 c.seed] 28) := by
      rw [hw4]
    rw [← hw4'] at kc
    refine ⟨?_, ?_, B2.out.kept kc (fun h => h), HR.out.kept (K2.out.trans kc) (fun _ _ h => h), K2.out.trans kc⟩
    · have h0 := Blk.new w2 3 (Array.replicate n (.int .i64 0))
      have h1 := ((h0.alloc (.cells #[.slice (some ⟨w2.heap.size, 0, none⟩) n n] 22)).alloc (.cells #[.int .i64 c.length, .int .i64 c.lateness, .int .i64 c.windows, .int .i64 c.shards, .int .i64 c.spread, .int .i64 c.queue, .int .i64 c.mode, .int .i64 c.slots, .int .i64 c.exact_, .int .u64 c.promote, .int .i64 c.depth, .int .i64 c.width, .int .i64 c.top, .int .i64 c.key, .slice C n k, .slice T 16 j, .int .u64 c.seed] 28))
      rw [← hw4'] at h1
      simpa [Nums] using h1
    · have h0 := Blk.new_at (w2.alloc (.cells (Array.replicate n (.int .i64 0)) 3)) 22 #[.slice (some ⟨w2.heap.size, 0, none⟩) n n] (w2.heap.size + 1) (by simp)
      have h1 := h0.alloc (.cells #[.int .i64 c.length, .int .i64 c.lateness, .int .i64 c.windows, .int .i64 c.shards, .int .i64 c.spread, .int .i64 c.queue, .int .i64 c.mode, .int .i64 c.slots, .int .i64 c.exact_, .int .u64 c.promote, .int .i64 c.depth, .int .i64 c.width, .int .i64 c.top, .int .i64 c.key, .slice C n k, .slice T 16 j, .int .u64 c.seed] 28)
      rw [← hw4'] at h1
      exact h1
  have Y4 : Hid (Blk w4 (w2.heap.size + 1 + 1) 28 #[.int .i64 c.length, .int .i64 c.lateness, .int .i64 c.windows, .int .i64 c.shards, .int .i64 c.spread, .int .i64 c.queue, .int .i64 c.mode, .int .i64 c.slots, .int .i64 c.exact_, .int .u64 c.promote, .int .i64 c.depth, .int .i64 c.width, .int .i64 c.top, .int .i64 c.key, .slice C n k, .slice T 16 j, .int .u64 c.seed]) := by
    show Blk _ _ _ _
    rw [hw4]
    exact Blk.new_at _ _ _ _ (by simp)
  have hG2 : w.heap.size ≤ w2.heap.size := K2.out.size
  clear hw4 B3 B2 K2 q14 hmk HC HR
  gi_wp2
  generalize w2.heap.size = G at *
  clear hG
  trace "LOOP"
  refine wpIn_rangeFunc_ownF hro h1 (gf := 59) (lb := #[.pointer (some ⟨G + 1 + 1, 0, none⟩)]) rfl hf1 (enters_of Try.func59 (by kernel_rfl) rfl)
    (needs_stops F (n' - 1) hf1 hft hro (by omega) G (G + 1 + 1) B c HF.out l HLb.out C T n k j _ hn8 (by omega) (by omega) (by omega) HT.out Y4.out D4.out.rd)
    (fun h k => h.trans k) (fun W l o o' hl h hc _ => KpC.putObj G W l o o' h hc) (Below.refl _ _) (fun _ => rfl)
    (DI w w.heap.size G (G + 1) B n k j c l C T)
    (fun _ _ _ => False)
    (DI.own (by omega))
    (fun _ _ _ _ _ hs _ _ => hs)
    D4.out
    (fun x => { tmps := #[Value.agg #[.int .i64 c.length, .int .i64 c.lateness, .int .i64 c.windows, .int .i64 c.shards, .int .i64 c.spread, .int .i64 c.queue, .int .i64 c.mode, .int .i64 c.slots, .int .i64 c.exact_, .int .u64 c.promote, .int .i64 c.depth, .int .i64 c.width, .int .i64 c.top, .int .i64 c.key, .slice C n k, .slice T 16 j, .int .u64 c.seed], .pointer (some ⟨w.heap.size, 0, none⟩), .slice none 0 0, .int .i64 0, .int .i64 0, .pointer (some ⟨G + 1, 0, none⟩), .int .i64 x.1, .int .i64 x.2, undef, undef, Value.agg #[.int .i64 c.length, .int .i64 c.lateness, .int .i64 c.windows, .int .i64 c.shards, .int .i64 c.spread, .int .i64 c.queue, .int .i64 c.mode, .int .i64 c.slots, .int .i64 c.exact_, .int .u64 c.promote, .int .i64 c.depth, .int .i64 c.width, .int .i64 c.top, .int .i64 c.key, .slice C n k, .slice T 16 j, .int .u64 c.seed], .int .i64 0, .int .i64 0, .bool false, undef,
      .pointer (some ⟨w.heap.size, 14, none⟩), .slice C n k, .int .i64 n, .slice (some ⟨G, 0, none⟩) n n, Value.agg #[.int .i64 c.length, .int .i64 c.lateness, .int .i64 c.windows, .int .i64 c.shards, .int .i64 c.spread, .int .i64 c.queue, .int .i64 c.mode, .int .i64 c.slots, .int .i64 c.exact_, .int .u64 c.promote, .int .i64 c.depth, .int .i64 c.width, .int .i64 c.top, .int .i64 c.key, .slice C n k, .slice T 16 j, .int .u64 c.seed], .func (.func 59) #[] #[.pointer (some ⟨G + 1 + 1, 0, none⟩)], .int .i64 x.1, .int .i64 x.2,
      undef, undef, undef, undef, undef, undef, undef, undef, undef, undef, undef, undef, undef, undef, undef, undef, undef, undef, undef, undef, undef], defers := [] }) ?assign ?body ?done ?stop
  case assign =>
    intro lp x W K hK
    gi_wp2
    exact hK
  case body =>
    intro lp pre x W hI hlen
    obtain ⟨x1, x2⟩ := x
    have HI := hide hI
    have q14 : W.cell? ⟨w.heap.size, 14, none⟩ = some (.slice C n k) := hI.bx.cell 14
    have HW1 := hide (show pre ++ [(x1, x2)] = pre ++ [(x1, x2)] from rfl)
    clear hI hlen D4 Y4
    dsimp only
    trace "BODY"
    gi_wp2
    obtain ⟨wo, hwo⟩ : ∃ wo : World, wo = W := ⟨_, rfl⟩
    gi_loopw [8, 9, 26] (fun _ _ iv wr => ∃ i : Nat, i ≤ n ∧ iv = .int .i64 i ∧ i ≤ fit l x1 ∧ Hid (Keeps (fun _ => False) W wr)) (fun _ _ iv _ => n - (intOf iv).toNat)
    case atStart => exact ⟨0, by omega, rfl, by omega, hide (Keeps.refl _ _)⟩
    case round =>
      obtain ⟨i, hi, rfl, hif, HKr⟩ := hrel
      have HIr := hide (HI.out.quiet HKr.out)
      by_cases hlt : i < n
      · have HLT : Hid (i + 1 ≤ n) := hlt
        have hil : i < l.length := by rw [HLn.out]; exact hlt
        obtain ⟨x, hx⟩ : ∃ x, l[i]? = some x := ⟨l[i]'hil, by simp⟩
        have hcl : l[i] = x := by rw [List.getElem?_eq_getElem hil] at hx; injection hx
        obtain ⟨b, off, rfl, hbB, hcell⟩ := HIr.out.rd.2 (by omega)
        obtain ⟨g1, g2⟩ := clv_at l i x hx
        have f1 := hcell _ _ g1
        have f2 := hcell _ _ g2
        rw [← Nat.add_assoc] at f2
        have hiI : (i : Int) < (n : Int) := by omega
        have hi0 : (0 : Int) ≤ (i : Int) := by omega
        have ka := (Keeps.refl (fun _ => False) wr).alloc (.cells #[.int .i64 x.1, .int .i64 x.2] 46)
        have HKa := hide (HKr.out.trans ka)
        have HIa := hide (HIr.out.quiet ka)
        by_cases hle : x1 ≤ x.1
        · have hfit : fit l x1 = i := by
            rcases Nat.lt_or_ge i (fit l x1) with h | h
            · have := fit_spec l x1 i h hil
              rw [hcl] at this; omega
            · omega
          have HFt := hide hfit
          obtain ⟨zs, hzs⟩ : ∃ zs, zs = pre.foldl (giveW l) (List.replicate n 0) := ⟨_, rfl⟩
          have hzl : zs.length = n := by rw [hzs, givesW_len]; simp
          have hnu := HIa.out.nums
          rw [← hzs] at hnu
          have hz := hnu.cell i (by omega)
          have hfz := hnu.frozen i
          obtain ⟨z, hze⟩ : ∃ z, z = zs.getD i 0 := ⟨_, rfl⟩
          rw [← hze] at hz
          have qo : (wr.alloc (.cells #[.int .i64 x.1, .int .i64 x.2] 46)).cell? ⟨G + 1, 0, none⟩ = some (.slice (some ⟨G, 0, none⟩) n n) := HIa.out.ob.cell 0
          have HZE := hide hze
          have HZS := hide hzs
          clear hcell g1 g2 hx hcl HIr hfit hzs hze hzl hnu ka HKr hif
          gi_wp2
          refine ⟨HKa.out.others.trans (KeepsOthers.setCell _ _ _), (HKa.out.kp G).trans (KpC.setCell G _ i _), HIa.out.put (by omega) (by omega) (by omega) hB (x1, x2) HFt.out.symm _ ?_⟩
          rw [← HZS.out, ← HZE.out]
          first | rfl | (rw [IntKind.wrap_i64]; simp only [wrap64])
        · have hfit : i + 1 ≤ fit l x1 := by
            rcases Nat.lt_or_ge i (fit l x1) with h | h
            · omega
            · exfalso
              have h2 : fit l x1 = i := by omega
              have := fit_at l x1 (by omega)
              simp only [h2, hcl] at this
              omega
          have HFt := hide hfit
          clear hcell g1 g2 hx hcl HIr HIa hfit ka HKr hif
          gi_wp2
          go_roundw
          case rel => exact ⟨i + 1, HLT.out, by go_num, HFt.out, HKa⟩
          case measure => have := HLT.out; simp [intOf]; omega
      · obtain rfl : i = n := by omega
        have HFt := hide (show (pre ++ [(x1, x2)]).foldl (giveW l) (List.replicate i 0) = pre.foldl (giveW l) (List.replicate i 0) by
          rw [List.foldl_append, List.foldl_cons, List.foldl_nil]
          exact giveW_out _ _ _ (by rw [givesW_len]; simpa using hif))
        gi_wp2
        exact ⟨HKr.out.others, HKr.out.kp G, ⟨by rw [HFt.out]; exact HIr.out.nums, HIr.out.ob, HIr.out.bx, HIr.out.rd, HIr.out.kp⟩⟩
  case done =>
    rintro D ys W hD hys hI hK
    have qo : W.cell? ⟨G + 1, 0, none⟩ = some (.slice (some ⟨G, 0, none⟩) n n) := hI.ob.cell 0
    have HI := hide hI
    have HYs := hide hys
    have HK := hide hK
    clear hI hys hK D4 Y4
    gi_wp2
    refine ⟨by simp, .inl ⟨_, _, rfl, run_takeDeferred HK.out, ?_⟩⟩
    have hkd := KpC.putObj (G + 5) W D _ (.deferred none) HK.out rfl
    have hkx : Keeps (fun _ => False) w (W.putObj D (.deferred none)) := HI.out.kp.grown (grownBy_putObj' W D (.deferred none)) (fun b e hb => by cases e; omega)
    refine ⟨_, results_tmp2 rfl _ _ _, G, rfl, hG2, ?_, hkx⟩
    have := Blk.kp HI.out.nums hkd (by omega)
    rw [HYs.out] at this
    have h2 := HND.out
    rw [HLn.out] at h2
    rw [h2] at this
    exact this
  case stop =>
    rintro D c' pre W _ _ h _
    exact h.elim

theorem sdemand_ok (c : Cfg) (h : Fine c) (l : List (Int × Int)) (hl : classesE l = 0) (hm : Room c l) (C T : Option Addr) (n k j B : Nat) (w : World) (hr : Rd w B C 2 n (clv l)) (hB : B ≤ w.heap.size) :
    Calls Try.prog 29 #[Value.agg #[.int .i64 c.length, .int .i64 c.lateness, .int .i64 c.windows, .int .i64 c.shards, .int .i64 c.spread, .int .i64 c.queue, .int .i64 c.mode, .int .i64 c.slots, .int .i64 c.exact_, .int .u64 c.promote, .int .i64 c.depth, .int .i64 c.width, .int .i64 c.top, .int .i64 c.key, .slice C n k, .slice T 16 j, .int .u64 c.seed]] w (Demands w n (demand0 c l)) :=
  (callsIn_wide (n := 9)).1 (sdemand_in Fence.wide 9 rfl (by omega) trivial trivial trivial trivial trivial c h l hl hm C T n k j B w
    (fun W' hr' hB' => callsIn_wide.2 (scheck_ok c h l hl hm C T n k j B W' hr' hB'))
    (fun W' hr' hB' => callsIn_wide.2 (stracked_ok c h l hl hm C T n k j B W' hr' hB')) hr hB)
end Go.Proofs.Ytgjlibecgkhocaa

