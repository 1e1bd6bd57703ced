/-
  summary.Bounds by its contract. No conditions beyond those of the statement.
-/
import Derived.Test.YtaiopdipldaimaaGD
import Derived.OrdersHeld
import Derived.Deep.CutBlock
set_option linter.unusedVariables false
set_option linter.unusedSimpArgs false
namespace Go.Proofs.Ytaiopdipldaimaa
open Go.RowKit Cfp
namespace sbd
def findReg (q : Nat) : Code → Option Code
  | .region id ops b => if id = q then some (.region id ops b) else none
  | .loop c => findReg q c
  | .seq a b => match findReg q a with
    | some c => some c
    | none => findReg q b
  | .block _ c => findReg q c
  | .scope c => findReg q c
  | .cond _ a b => match findReg q a with
    | some c => some c
    | none => findReg q b
  | _ => none
def NormPost (W : Act → World → Prop) : Exit → Act → World → Prop
  | .normal, a, w => W a w
  | _, _, _ => False
noncomputable def rg5 : Code := ((Try.f42.body.bind (findReg 5)).getD .skip)
/-- what the region reads -/
def Rds (X3 X4 X5 X8 : Nat) (cs ss : Array Value) (k : ByteArray) (lo hi : Int) (w : World) : Prop :=
  Blk w X3 51 cs ∧ w.cell? ⟨X4, 0, none⟩ = ss[0]? ∧ w.cell? ⟨X4, 1, none⟩ = ss[1]? ∧ w.cell? ⟨X4, 2, none⟩ = ss[2]? ∧ w.cell? ⟨X4, 3, none⟩ = ss[3]? ∧ w.cell? ⟨X5, 0, none⟩ = some (.string k) ∧ w.cell? ⟨X8, 0, none⟩ = some (.int .u64 lo) ∧ w.cell? ⟨X8, 1, none⟩ = some (.int .u64 hi)
set_option maxRecDepth 1000000 in
set_option maxHeartbeats 4000000 in
theorem reg5 (w1 : World) (X3 X4 X5 X6 X8 : Nat) (c : Cfg) (C T : Option Addr) (n0 k0 q j : Nat) (tot un : Int) (A R : Option Addr) (n cA m cR : Nat) (k : ByteArray) (lo hi est iv : Int)
    (HE : Hid (∀ W, Keeps (fun _ => False) w1 W → Calls Try.prog 44 #[Value.agg #[.int .i64 c.length, .int .i64 c.lateness, .int .i64 c.windows, .int .i64 c.shards, .int .i64 c.spread, .int .i64 c.queue, .int .i64 c.mode, .int .i64 c.slots, .int .i64 c.exact_, .int .u64 c.promote, .int .i64 c.depth, .int .i64 c.width, .int .i64 c.top, .int .i64 c.key, .slice C n0 k0, .slice T q j, .int .u64 c.seed], smV tot A n cA un R m cR, .string k] W fun e w' => e = .returned (.int .u64 est) ∧ Keeps (fun _ => False) W w'))
    (b3 : Blk w1 X3 51 #[.int .i64 c.length, .int .i64 c.lateness, .int .i64 c.windows, .int .i64 c.shards, .int .i64 c.spread, .int .i64 c.queue, .int .i64 c.mode, .int .i64 c.slots, .int .i64 c.exact_, .int .u64 c.promote, .int .i64 c.depth, .int .i64 c.width, .int .i64 c.top, .int .i64 c.key, .slice C n0 k0, .slice T q j, .int .u64 c.seed]) (b4 : Blk w1 X4 45 (smC tot A n cA un R m cR)) (b5 : Blk w1 X5 9 #[.string k]) (b6 : Blk w1 X6 81 (bndC 0 0)) (b8 : Blk w1 X8 81 (bndC lo hi))
    (hne : X3 ≠ X6 ∧ X4 ≠ X6 ∧ X5 ≠ X6 ∧ X8 ≠ X6) (s0 s1 s2 s7 s10 s11 s12 s13 s14 s15 s16 s17 s18 s19 s20 s21 s22 s23 s24 s25 s26 s27 s28 s29 s30 s31 s32 : Value) :
    Code.wp Try.prog rg5 (NormPost fun a' w' => (Blk w' X6 81 (bndC (imin lo est) (imin hi est)) ∧ Keeps (· = X6) w1 w') ∧ (∃ u25 u26 u27 u28 u29 u30 u31 u32 : Value, a' = ⟨#[s0, s1, s2, .pointer (some ⟨X3, 0, none⟩), .pointer (some ⟨X4, 0, none⟩), .pointer (some ⟨X5, 0, none⟩), .pointer (some ⟨X6, 0, none⟩), .bool (decide (0 ≤ iv)), .pointer (some ⟨X8, 0, none⟩), .int .i64 iv, s10, s11, s12, s13, s14, s15, s16, s17, s18, s19, s20, s21, s22, s23, s24, u25, u26, u27, u28, u29, u30, u31, u32], []⟩)) ⟨#[s0, s1, s2, .pointer (some ⟨X3, 0, none⟩), .pointer (some ⟨X4, 0, none⟩), .pointer (some ⟨X5, 0, none⟩), .pointer (some ⟨X6, 0, none⟩), s7, .pointer (some ⟨X8, 0, none⟩), .int .i64 iv, s10, s11, s12, s13, s14, s15, s16, s17, s18, s19, s20, s21, s22, s23, s24, s25, s26, s27, s28, s29, s30, s31, s32], []⟩ w1 := by
  have HRd : Hid (∀ W, Keeps (· = X6) w1 W → Rds X3 X4 X5 X8 #[.int .i64 c.length, .int .i64 c.lateness, .int .i64 c.windows, .int .i64 c.shards, .int .i64 c.spread, .int .i64 c.queue, .int .i64 c.mode, .int .i64 c.slots, .int .i64 c.exact_, .int .u64 c.promote, .int .i64 c.depth, .int .i64 c.width, .int .i64 c.top, .int .i64 c.key, .slice C n0 k0, .slice T q j, .int .u64 c.seed] (smC tot A n cA un R m cR) k lo hi W) := hide (fun W kW => ⟨b3.kept kW hne.1, (b4.kept kW hne.2.1).cell 0, (b4.kept kW hne.2.1).cell 1, (b4.kept kW hne.2.1).cell 2, (b4.kept kW hne.2.1).cell 3, (b5.kept kW hne.2.2.1).cell 0, (b8.kept kW hne.2.2.2).cell 0, (b8.kept kW hne.2.2.2).cell 1⟩)
  have B6 := hide b6
  have k0' : Keeps (fun _ => False) w1 w1.drew := (Keeps.refl _ _).drew
  have KK : Hid (∀ W, Keeps (fun _ => False) w1 W → Keeps (· = X6) w1 W) := hide (fun W kW => (Keeps.refl (· = X6) w1).step kW (fun _ _ h => h.elim))
  clear b3 b4 b5 b6 b8
  conv => arg 2; whnf
  dsimp only
  refine wp_region_held_drew (S := Rds X3 X4 X5 X8 #[.int .i64 c.length, .int .i64 c.lateness, .int .i64 c.windows, .int .i64 c.shards, .int .i64 c.spread, .int .i64 c.queue, .int .i64 c.mode, .int .i64 c.slots, .int .i64 c.exact_, .int .u64 c.promote, .int .i64 c.depth, .int .i64 c.width, .int .i64 c.top, .int .i64 c.key, .slice C n0 k0, .slice T q j, .int .u64 c.seed] (smC tot A n cA un R m cR) k lo hi) (by kernel_rfl) (HRd.out _ (KK.out _ k0')) (fun hHeld => ?_)
  refine wpAnyH_take (i := 0) (v := ?_) rfl (by kernel_rfl) (by kernel_rfl) (by kernel_rfl) (fun _ _ _ h => h) (Or.inl ⟨by kernel_rfl, ?_⟩) (by assumption) ?_; rotate_left; focus (intro w hSw; (try dsimp only at hSw); obtain ⟨h0, h1, h2, h3, h4, h5, h6, h7⟩ := hSw; go_simp; try (with_reducible rfl)); (try simp only [Act.put, List.setIfInBounds_toArray, List.set_cons_zero, List.set_cons_succ])
  refine wpAnyH_take (i := 1) (v := _) rfl (by kernel_rfl) (by kernel_rfl) (by kernel_rfl) (fun _ _ _ h => h) (cfg_yields (c := c) (C := C) (T := T) (n := n0) (k := k0) (q := q) (j := j) (g := X3) (.tmp 3) rfl (fun _ h => h.1) (by simp [Act.eval, Act.put]) (by kernel_rfl)) (by assumption) ?_
  (try simp only [Act.put, List.setIfInBounds_toArray, List.set_cons_zero, List.set_cons_succ])
  refine wpAnyH_take (i := 2) (v := ?_) rfl (by kernel_rfl) (by kernel_rfl) (by kernel_rfl) (fun _ _ _ h => h) (Or.inl ⟨by kernel_rfl, ?_⟩) (by assumption) ?_; rotate_left; focus (intro w hSw; (try dsimp only at hSw); obtain ⟨h0, h1, h2, h3, h4, h5, h6, h7⟩ := hSw; go_simp; try (with_reducible rfl)); (try simp only [Act.put, List.setIfInBounds_toArray, List.set_cons_zero, List.set_cons_succ])
  refine wpAnyH_take (i := 3) (v := ?_) rfl (by kernel_rfl) (by kernel_rfl) (by kernel_rfl) (fun _ _ _ h => h) (Or.inl ⟨by kernel_rfl, ?_⟩) (by assumption) ?_; rotate_left; focus (intro w hSw; (try dsimp only at hSw); obtain ⟨h0, h1, h2, h3, h4, h5, h6, h7⟩ := hSw; go_simp; try (with_reducible rfl)); (try simp only [Act.put, List.setIfInBounds_toArray, List.set_cons_zero, List.set_cons_succ])
  refine wpAnyH_take (i := 6) (v := ?_) rfl (by kernel_rfl) (by kernel_rfl) (by kernel_rfl) (fun _ _ _ h => h) (Or.inl ⟨by kernel_rfl, ?_⟩) (by assumption) ?_; rotate_left; focus (intro w hSw; (try dsimp only at hSw); obtain ⟨h0, h1, h2, h3, h4, h5, h6, h7⟩ := hSw; go_simp; try (with_reducible rfl)); (try simp only [Act.put, List.setIfInBounds_toArray, List.set_cons_zero, List.set_cons_succ])
  refine wpAnyH_take (i := 7) (v := ?_) rfl (by kernel_rfl) (by kernel_rfl) (by kernel_rfl) (fun _ _ _ h => h) (Or.inl ⟨by kernel_rfl, ?_⟩) (by assumption) ?_; rotate_left; focus (intro w hSw; (try dsimp only at hSw); obtain ⟨h0, h1, h2, h3, h4, h5, h6, h7⟩ := hSw; go_simp; try (with_reducible rfl)); (try simp only [Act.put, List.setIfInBounds_toArray, List.set_cons_zero, List.set_cons_succ])
  trace "TAKEN"
  refine wpAnyH_ready (rs := [4]) (by kernel_rfl) (by simp) ?_
  refine AllReadyH.cons rfl (fun K hK => ?_) AllReadyH.nil
  go_simp
  go_at_call 44
  refine (HE.out _ k0').mono ?_
  rintro e W1 ⟨rfl, kk⟩
  have k1 := k0'.trans kk
  try go_wp2_with fail
  refine hK.out _ _ (HRd.out _ (KK.out _ k1)) (fun hHeld => ?_)
  clear hK K kk
  (try simp only [Act.put, List.setIfInBounds_toArray, List.set_cons_zero, List.set_cons_succ])
  refine wpAnyH_ready (rs := [5]) (by kernel_rfl) (by simp) ?_
  refine AllReadyH.cons rfl (fun K hK => ?_) AllReadyH.nil
  go_simp
  go_at_call 78
  refine (bcap_any lo hi est W1).mono ?_
  rintro e W2 ⟨rfl, kk⟩
  have k2 := k1.trans kk
  try go_wp2_with fail
  refine hK.out _ _ (HRd.out _ (KK.out _ k2)) (fun hHeld => ?_)
  clear hK K kk
  (try simp only [Act.put, List.setIfInBounds_toArray, List.set_cons_zero, List.set_cons_succ])
  trace "CALLS"
  have B6 := hide (B6.out.kept k2 (fun h => h))
  have q0 := B6.out.cell 0
  have q1 := B6.out.cell 1
  have f0 := B6.out.frozen 0
  have f1 := B6.out.frozen 1
  have hw2 := KK.out _ k2
  refine wpAnyH_ready (rs := [8]) (by kernel_rfl) (by simp) ?_
  refine AllReadyH.cons rfl (fun K hK => ?_) AllReadyH.nil
  go_simp
  have kS : Keeps (· = X6) W2 ((W2.setCell ⟨X6, 0, none⟩ (.int .u64 (imin lo est))).setCell ⟨X6, 1, none⟩ (.int .u64 (imin hi est))) := Keeps.setCell (S := (· = X6)) (p := ⟨X6, 1, none⟩) (Keeps.setCell (S := (· = X6)) (p := ⟨X6, 0, none⟩) (Keeps.refl _ _) (.inl rfl) _) (.inl rfl) _
  have bS := (B6.out.set 0 (.int .u64 (imin lo est))).set 1 (.int .u64 (imin hi est))
  have kT := hw2.trans kS
  refine hK.out _ _ (HRd.out _ kT) (fun hHeld => ?_)
  clear hK K
  (try simp only [Act.put, List.setIfInBounds_toArray, List.set_cons_zero, List.set_cons_succ])
  refine wpAnyH_take (i := 9) (v := ?_) rfl (by kernel_rfl) (by kernel_rfl) (by kernel_rfl) (fun _ _ _ h => h) (Or.inl ⟨by kernel_rfl, ?_⟩) (by assumption) ?_; rotate_left; focus (intro w hSw; (try dsimp only at hSw); obtain ⟨h0, h1, h2, h3, h4, h5, h6, h7⟩ := hSw; go_simp; try (with_reducible rfl)); (try simp only [Act.put, List.setIfInBounds_toArray, List.set_cons_zero, List.set_cons_succ])
  refine wpAnyH_done (by kernel_rfl) ?_ _
  refine ⟨⟨bS, kT⟩, ⟨_, _, _, _, _, _, _, _, rfl⟩⟩
end sbd
/-- the bounds of a key by a summary: its entry's, or 0 and what is not tracked; at most the estimate -/
def loS (l : List Ln) (k : ByteArray) : Int := match l[keyAt l k]? with
  | some x => x.lo
  | none => 0
def hiS (l : List Ln) (un : Int) (k : ByteArray) : Int := match l[keyAt l k]? with
  | some x => Sat.add x.lo x.hi
  | none => un
set_option maxRecDepth 100000 in
set_option maxHeartbeats 1000000 in
theorem sbounds_any (w : World) (B : Nat) (c : Cfg) (C T : Option Addr) (n0 k0 q j : Nat) (zs : List Int) (ht : Rd w B T 1 q (zs.map (.int .u64))) (hzb : ∀ z ∈ zs, 0 ≤ z ∧ z < 18446744073709551616) (hs : 0 ≤ c.seed ∧ c.seed < 18446744073709551616)
    (tot un : Int) (A R : Option Addr) (n cA m cR : Nat) (l : List Ln) (F : RowsF) (h : SmIn w B A n l R m F) (hB : B ≤ w.heap.size) (k : ByteArray) (hk : k.size ≤ 140737488351232) :
    Calls Try.prog 42 #[Value.agg #[.int .i64 c.length, .int .i64 c.lateness, .int .i64 c.windows, .int .i64 c.shards, .int .i64 c.spread, .int .i64 c.queue, .int .i64 c.mode, .int .i64 c.slots, .int .i64 c.exact_, .int .u64 c.promote, .int .i64 c.depth, .int .i64 c.width, .int .i64 c.top, .int .i64 c.key, .slice C n0 k0, .slice T q j, .int .u64 c.seed], smV tot A n cA un R m cR, .string k] w fun e w' => e = .returned (.tuple #[bnd (imin (loS l k) (estS tot m F zs c.seed k.data.toList)) (imin (hiS l un k) (estS tot m F zs c.seed k.data.toList)), .bool (decide (keyAt l k < n))]) ∧ Keeps (fun _ => False) w w' := by
  obtain ⟨w5, hw5⟩ : ∃ w5, w5 = ((((w.alloc (.cells #[.int .i64 c.length, .int .i64 c.lateness, .int .i64 c.windows, .int .i64 c.shards, .int .i64 c.spread, .int .i64 c.queue, .int .i64 c.mode, .int .i64 c.slots, .int .i64 c.exact_, .int .u64 c.promote, .int .i64 c.depth, .int .i64 c.width, .int .i64 c.top, .int .i64 c.key, .slice C n0 k0, .slice T q j, .int .u64 c.seed] 51)).alloc (.cells (smC tot A n cA un R m cR) 45)).alloc (.cells #[.string k] 9)).alloc (.cells (bndC 0 0) 81)).alloc (.cells (bndC 0 un) 81) := ⟨_, rfl⟩
  obtain ⟨g, hg⟩ : ∃ g, g = w.heap.size := ⟨_, rfl⟩
  have k5 : Keeps (fun _ => False) w w5 := by rw [hw5]; exact (((((Keeps.refl _ _).alloc _).alloc _).alloc _).alloc _).alloc _
  have b3 : Blk w5 g 51 #[.int .i64 c.length, .int .i64 c.lateness, .int .i64 c.windows, .int .i64 c.shards, .int .i64 c.spread, .int .i64 c.queue, .int .i64 c.mode, .int .i64 c.slots, .int .i64 c.exact_, .int .u64 c.promote, .int .i64 c.depth, .int .i64 c.width, .int .i64 c.top, .int .i64 c.key, .slice C n0 k0, .slice T q j, .int .u64 c.seed] := by rw [hw5, hg]; exact ((((Blk.new _ _ _).alloc _).alloc _).alloc _).alloc _
  have b4 : Blk w5 (g + 1) 45 (smC tot A n cA un R m cR) := by rw [hw5, hg]; exact (((Blk.new_at _ _ _ _ (by simp)).alloc _).alloc _).alloc _
  have b5 : Blk w5 (g + 1 + 1) 9 #[.string k] := by rw [hw5, hg]; exact ((Blk.new_at _ _ _ _ (by simp)).alloc _).alloc _
  have b6 : Blk w5 (g + 1 + 1 + 1) 81 (bndC 0 0) := by rw [hw5, hg]; exact (Blk.new_at _ _ _ _ (by simp)).alloc _
  have b8 : Blk w5 (g + 1 + 1 + 1 + 1) 81 (bndC 0 un) := by rw [hw5, hg]; exact Blk.new_at _ _ _ _ (by simp)
  have h5 := h.kept k5 (fun _ _ h => h)
  have t5 := ht.kept k5 (fun _ _ h => h)
  have HE := hide (fun (S : Nat → Prop) (hS : ∀ b, b < B → ¬ S b) W (kW : Keeps S w5 W) => est_any W B c C T n0 k0 q j zs (t5.kept kW hS) hzb hs tot un A R n cA m cR l F (h5.kept kW hS) k hk)
  obtain ⟨est, hest⟩ : ∃ est, est = estS tot m F zs c.seed k.data.toList := ⟨_, rfl⟩
  rw [← hest] at HE ⊢
  have hIX := hide (idxK_any B A l n cA k (g + 1 + 1) w5 h5.ents (b5.cell 0) h5.n1)
  obtain ⟨LO, hLO⟩ : ∃ v, v = loS l k := ⟨_, rfl⟩
  obtain ⟨HI, hHI⟩ : ∃ v, v = hiS l un k := ⟨_, rfl⟩
  obtain ⟨FB, hFB⟩ : ∃ v, v = decide (keyAt l k < n) := ⟨_, rfl⟩
  obtain ⟨iv, hiv⟩ : ∃ v, v = idxV (keyAt l k) n := ⟨_, rfl⟩
  rw [← hLO, ← hHI, ← hFB]
  rw [← hiv] at hIX
  have HLO := hide hLO
  have HHI := hide hHI
  have HFB := hide hFB
  have HIV := hide hiv
  clear hLO hHI hFB hiv
  have B3 := hide b3
  have B4 := hide b4
  have B5 := hide b5
  have B6 := hide b6
  have B8 := hide b8
  have K5 := hide k5
  have H5 := hide h5
  have c41 : w5.cell? ⟨g + 1, 1, none⟩ = some (.slice A n cA) := b4.cell 1
  have c42 : w5.cell? ⟨g + 1, 2, none⟩ = some (.int .u64 un) := b4.cell 2
  have c50 : w5.cell? ⟨g + 1 + 1, 0, none⟩ = some (.string k) := b5.cell 0
  have HW5 := hide hw5
  have HG := hide hg
  have hmf : ∀ (fn : Fn) (first cap : Array Value) (w : World), (Instr.makeFunc fn first cap).run Try.prog w = .ok (.func fn first cap) w := fun _ _ _ _ => rfl
  clear hw5 b3 b4 b5 b6 b8 k5 h5 t5 h ht hzb hest hg
  go_enter Try.func42, Try.ntmps42
  go_upto_region 2 with fail
  rw [← HW5.out]
  trace "R2"
  have HGs : Hid (w.heap.size = g) := hide HG.out.symm
  clear HW5 HG
  generalize hgs : w.heap.size = gs at *
  obtain rfl : gs = g := HGs.out
  clear HGs
  have hn1 := H5.out.n1
  go_wp2_with fail
  refine hIX.out.mono ?_
  rintro e w6 ⟨rfl, k6⟩
  have B3 := hide (B3.out.kept k6 (fun h => h))
  have B4 := hide (B4.out.kept k6 (fun h => h))
  have B5 := hide (B5.out.kept k6 (fun h => h))
  have B6 := hide (B6.out.kept k6 (fun h => h))
  have B8 := hide (B8.out.kept k6 (fun h => h))
  have K6 := hide (K5.out.trans k6)
  have H6 := hide (H5.out.kept k6 (fun _ _ h => h))
  have K56 := hide k6
  have hs56 := k6.size
  have hlen := H6.out.len
  clear k6 K5 H5 hIX c41 c42 c50 hmf
  obtain ⟨p, hp⟩ : ∃ p, p = keyAt l k := ⟨_, rfl⟩
  have hple : p ≤ n := by have := keyAt_le l k; omega
  by_cases hf : p < n
  · obtain ⟨x, hx⟩ : ∃ x, l[p]? = some x := ⟨l[p]'(by omega), List.getElem?_eq_getElem _⟩
    obtain rfl : LO = x.lo := by have := HLO.out; unfold loS at this; rw [← hp, hx] at this; exact this
    obtain rfl : HI = Sat.add x.lo x.hi := by have := HHI.out; unfold hiS at this; rw [← hp, hx] at this; exact this
    obtain rfl : iv = (p : Int) := by rw [HIV.out, ← hp, idxV_lt hf]
    have HFB' : Hid (FB = decide ((0 : Int) ≤ (p : Int))) := hide (by rw [HFB.out, ← hp]; simp [hf])
    obtain ⟨b, off, rfl, hbB, c0, c1, c2⟩ := lnRd_at H6.out.ents hx (by omega)
    have hU := H6.out.num x (List.mem_of_getElem? hx)
    have c41 : w6.cell? ⟨gs + 1, 1, none⟩ = some (.slice (some ⟨b, off, none⟩) n cA) := B4.out.cell 1
    have hp0 : (0 : Int) ≤ (p : Int) := by omega
    have hp1 : (p : Int) < (n : Int) := by omega
    clear HLO HHI HIV HFB hx hp hlen
    go_wp2_with fail
    trace "OF"
    refine (bof_any x.key x.lo x.hi hU.1 hU.2.1 w6).mono ?_
    rintro e w7 ⟨rfl, k7⟩
    have B3 := hide (B3.out.kept k7 (fun h => h))
    have B4 := hide (B4.out.kept k7 (fun h => h))
    have B5 := hide (B5.out.kept k7 (fun h => h))
    have B6 := hide (B6.out.kept k7 (fun h => h))
    have B8 := hide (B8.out.kept k7 (fun h => h))
    have K7 := hide (K6.out.trans k7)
    have K57 := hide (K56.out.trans k7)
    have d0 := B8.out.cell 0
    have d1 := B8.out.cell 1
    have f0 := B8.out.frozen 0
    have f1 := B8.out.frozen 1
    clear k7 K6 K56 c0 c1 c2 c41 H6
    go_upto_region 5 with fail
    trace "R5"
    have kS : Keeps (· = gs + 1 + 1 + 1 + 1) w7 ((w7.setCell ⟨gs + 1 + 1 + 1 + 1, 0, none⟩ (.int .u64 x.lo)).setCell ⟨gs + 1 + 1 + 1 + 1, 1, none⟩ (.int .u64 (Sat.add x.lo x.hi))) := Keeps.setCell (S := (· = gs + 1 + 1 + 1 + 1)) (p := ⟨gs + 1 + 1 + 1 + 1, 1, none⟩) (Keeps.setCell (S := (· = gs + 1 + 1 + 1 + 1)) (p := ⟨gs + 1 + 1 + 1 + 1, 0, none⟩) (Keeps.refl _ _) (.inl rfl) _) (.inl rfl) _
    have B3 := hide (B3.out.kept kS (by omega))
    have B4 := hide (B4.out.kept kS (by omega))
    have B5 := hide (B5.out.kept kS (by omega))
    have B6 := hide (B6.out.kept kS (by omega))
    have B8 := hide ((B8.out.set 0 (.int .u64 x.lo)).set 1 (.int .u64 (Sat.add x.lo x.hi)))
    have K8 := hide ((Keeps.refl (fun b => b = gs + 1 + 1 + 1 ∨ b = gs + 1 + 1 + 1 + 1) w).step K7.out (fun _ _ h => h.elim) |>.step kS (fun _ _ e => Or.inr e))
    have K58 := hide ((Keeps.refl (· = gs + 1 + 1 + 1 + 1) w5).step K57.out (fun _ _ h => h.elim) |>.step kS (fun _ _ e => e))
    clear kS K7 K57 d0 d1 f0 f1
    generalize (w7.setCell _ _).setCell _ _ = w8 at *
    have HE8 := hide (fun W (kW : Keeps (fun _ => False) w8 W) => HE.out (· = gs + 1 + 1 + 1 + 1) (fun b hb => by omega) W (K58.out.step kW (fun _ _ h => h.elim)))
    clear HE K58
    refine Code.wp_mono ?_ (sbd.reg5 w8 gs (gs + 1) (gs + 1 + 1) (gs + 1 + 1 + 1) (gs + 1 + 1 + 1 + 1) c C T n0 k0 q j tot un _ R _ cA m cR k x.lo (Sat.add x.lo x.hi) est (p : Int) HE8 B3.out B4.out B5.out B6.out B8.out (by omega) _ _ _ _ _ _ _ _ _ _ _ _ _ _ _ _ _ _ _ _ _ _ _ _ _ _ _)
    intro e a' w9 hex
    cases e <;> (first | exact hex.elim | skip)
    obtain ⟨⟨b6, k9⟩, ⟨u25, u26, u27, u28, u29, u30, u31, u32, rfl⟩⟩ := hex
    have q0 := b6.cell 0
    have q1 := b6.cell 1
    have K9 := hide (K8.out.step k9 (fun _ _ e => Or.inl e))
    clear b6 k9
    dsimp only
    trace "LAST"
    go_wp2_with fail
    refine bodyPost_ret (v := .tuple #[bnd (imin x.lo est) (imin (Sat.add x.lo x.hi) est), .bool FB]) (by rw [HFB'.out]; simp [results, Try.results42, go_sem, q0, q1]) rfl ⟨rfl, ?_⟩
    exact (Keeps.refl (fun _ => False) w).step K9.out (fun b hb e => by omega)
  · obtain rfl : p = n := by omega
    obtain rfl : LO = 0 := by have := HLO.out; unfold loS at this; rw [← hp, List.getElem?_eq_none (by omega)] at this; exact this
    obtain rfl : HI = un := by have := HHI.out; unfold hiS at this; rw [← hp, List.getElem?_eq_none (by omega)] at this; exact this
    obtain rfl : iv = -1 := by rw [HIV.out, ← hp, idxV_no]
    have HFB' : Hid (FB = decide ((0 : Int) ≤ -1)) := hide (by rw [HFB.out, ← hp]; simp)
    have K8 := hide ((Keeps.refl (fun b => b = gs + 1 + 1 + 1 ∨ b = gs + 1 + 1 + 1 + 1) w).step K6.out (fun _ _ h => h.elim))
    have HE8 := hide (fun W (kW : Keeps (fun _ => False) w6 W) => HE.out (fun _ => False) (fun _ _ h => h) W (K56.out.trans kW))
    clear HE K56 K6 H6 HLO HHI HIV HFB hp hlen
    go_upto_region 5 with fail
    trace "R5b"
    refine Code.wp_mono ?_ (sbd.reg5 w6 gs (gs + 1) (gs + 1 + 1) (gs + 1 + 1 + 1) (gs + 1 + 1 + 1 + 1) c C T n0 k0 q j tot HI _ R _ cA m cR k 0 HI est (-1) HE8 B3.out B4.out B5.out B6.out B8.out (by omega) _ _ _ _ _ _ _ _ _ _ _ _ _ _ _ _ _ _ _ _ _ _ _ _ _ _ _)
    intro e a' w9 hex
    cases e <;> (first | exact hex.elim | skip)
    obtain ⟨⟨b6, k9⟩, ⟨u25, u26, u27, u28, u29, u30, u31, u32, rfl⟩⟩ := hex
    have q0 := b6.cell 0
    have q1 := b6.cell 1
    have K9 := hide (K8.out.step k9 (fun _ _ e => Or.inl e))
    clear b6 k9
    dsimp only
    trace "LAST"
    go_wp2_with fail
    refine bodyPost_ret (v := .tuple #[bnd (imin 0 est) (imin HI est), .bool FB]) (by rw [HFB'.out]; simp [results, Try.results42, go_sem, q0, q1]) rfl ⟨rfl, ?_⟩
    exact (Keeps.refl (fun _ => False) w).step K9.out (fun b hb e => by omega)
end Go.Proofs.Ytaiopdipldaimaa
