/-
  Deck.Config, its first statement: all numbers are drawn from the deck, and the table's words.
-/
import Derived.Test.YtaiopdipldaimaaCfh
import Derived.Test.YtaiopdipldaimaaCfr
import Derived.Test.YtaiopdipldaimaaDeck
set_option linter.unusedVariables false
set_option linter.unusedSimpArgs false
namespace Go.Proofs.Ytaiopdipldaimaa
open Go.RowKit Cfp

/-- the bounds of a made configuration -/
structure Mild (c : Cfg) : Prop where
  fine : Fine c
  shards : c.shards ≤ 4
  windows : c.windows ≤ 4
  slots : c.slots ≤ 4
  exact_ : c.exact_ ≤ 3
  depth : c.depth ≤ 3
  width : c.width ≤ 9
  top : c.top ≤ 6
  key : 5 ≤ c.key

/-- the state between two steps of Config: the configuration in its block, its table in another, the result's block as it was made -/
structure CSx (w : World) (B g X : Nat) (C : Option Addr) (n k : Nat) (c : Cfg) (b : Nat) (ts : List Int) (wx : World) : Prop where
  mild : Mild c
  tl : ts.length = 16
  tb : ∀ z ∈ ts, 0 ≤ z ∧ z < 18446744073709551616
  tk : Blk wx b 24 (ts.map (.int .u64)).toArray
  tw : w.heap.size < b
  bx : Blk wx X 51 #[.int .i64 c.length, .int .i64 c.lateness, .int .i64 c.windows, .int .i64 c.shards, .int .i64 c.spread, .int .i64 c.queue, .int .i64 c.mode, .int .i64 c.slots, .int .i64 c.exact_, .int .u64 c.promote, .int .i64 c.depth, .int .i64 c.width, .int .i64 c.top, .int .i64 c.key, .slice C n k, .slice (some ⟨b, 0, none⟩) 16 16, .int .u64 c.seed]
  dk : IsDeck wx B g
  kp : Keeps (· = g) w wx
  b0 : Blk wx w.heap.size 51 #[.int .i64 0, .int .i64 0, .int .i64 0, .int .i64 0, .int .i64 0, .int .i64 0, .int .i64 0, .int .i64 0, .int .i64 0, .int .u64 0, .int .i64 0, .int .i64 0, .int .i64 0, .int .i64 0, .slice none 0 0, .slice none 0 0, .int .u64 0]
  hX : w.heap.size < X
  hg : g < w.heap.size
  hB : B ≤ g
def CS (w : World) (B g X : Nat) (C : Option Addr) (n k : Nat) (wx : World) : Prop := ∃ (c : Cfg) (b : Nat) (ts : List Int), CSx w B g X C n k c b ts wx
theorem CSx.kept {w wx w' : World} {B g X : Nat} {C : Option Addr} {n k : Nat} {c : Cfg} {b : Nat} {ts : List Int} (h : CSx w B g X C n k c b ts wx) (kk : Keeps (· = g) wx w') (d : IsDeck w' B g) : CSx w B g X C n k c b ts w' :=
  have h1 := h.tw; have h2 := h.hX; have h3 := h.hg
  ⟨h.mild, h.tl, h.tb, h.tk.kept kk (by omega), h.tw, h.bx.kept kk (by omega), d, h.kp.trans kk, h.b0.kept kk (by omega), h.hX, h.hg, h.hB⟩
theorem CSx.quiet {w wx w' : World} {B g X : Nat} {C : Option Addr} {n k : Nat} {c : Cfg} {b : Nat} {ts : List Int} (h : CSx w B g X C n k c b ts wx) (kk : Keeps (fun _ => False) wx w') : CSx w B g X C n k c b ts w' :=
  h.kept (kk.weak (fun _ _ h => h.elim)) (h.dk.kept kk (fun h => h) (fun _ _ h => h))
theorem CSx.put {w wx : World} {B g X : Nat} {C C' : Option Addr} {n k n' k' : Nat} {c c' : Cfg} {b : Nat} {ts : List Int} (h : CSx w B g X C n k c b ts wx) (i : Nat) (v : Value) (hm : Mild c')
    (he : (#[.int .i64 c.length, .int .i64 c.lateness, .int .i64 c.windows, .int .i64 c.shards, .int .i64 c.spread, .int .i64 c.queue, .int .i64 c.mode, .int .i64 c.slots, .int .i64 c.exact_, .int .u64 c.promote, .int .i64 c.depth, .int .i64 c.width, .int .i64 c.top, .int .i64 c.key, .slice C n k, .slice (some ⟨b, 0, none⟩) 16 16, .int .u64 c.seed]).setIfInBounds i v = #[.int .i64 c'.length, .int .i64 c'.lateness, .int .i64 c'.windows, .int .i64 c'.shards, .int .i64 c'.spread, .int .i64 c'.queue, .int .i64 c'.mode, .int .i64 c'.slots, .int .i64 c'.exact_, .int .u64 c'.promote, .int .i64 c'.depth, .int .i64 c'.width, .int .i64 c'.top, .int .i64 c'.key, .slice C' n' k', .slice (some ⟨b, 0, none⟩) 16 16, .int .u64 c'.seed]) : CSx w B g X C' n' k' c' b ts (wx.setCell ⟨X, i, none⟩ v) := by
  have h1 := h.tw; have h2 := h.hX; have h3 := h.hg; have h4 := h.hB
  have kS : Keeps (· = X) wx (wx.setCell ⟨X, i, none⟩ v) := Keeps.setCell (S := (· = X)) (p := ⟨X, i, none⟩) (Keeps.refl _ _) (.inl rfl) _
  have hne : b ≠ X := h.tk.ne h.bx (by decide)
  exact ⟨hm, h.tl, h.tb, h.tk.kept kS hne, h.tw, by rw [← he]; exact h.bx.set i v, h.dk.kept kS (by omega) (fun b hb => by omega), h.kp.step kS (fun b hb e => by omega), h.b0.kept kS (by omega), h.hX, h.hg, h.hB⟩

theorem CSx.far {w wx w' : World} {B g X q : Nat} {C : Option Addr} {n k : Nat} {c : Cfg} {b : Nat} {ts : List Int} (h : CSx w B g X C n k c b ts wx) (kk : Keeps (· = q) wx w') (hq : w.heap.size < q) (hb : b ≠ q) (hx : X ≠ q) : CSx w B g X C n k c b ts w' :=
  have h1 := h.tw; have h2 := h.hX; have h3 := h.hg; have h4 := h.hB
  ⟨h.mild, h.tl, h.tb, h.tk.kept kk hb, h.tw, h.bx.kept kk hx, h.dk.kept kk (by omega) (fun b hb => by omega), h.kp.step kk (fun b hb e => by omega), h.b0.kept kk (by omega), h.hX, h.hg, h.hB⟩

theorem Mild.q {c : Cfg} (h : Mild c) : Mild { c with queue := 64 } :=
  have f := h.fine
  ⟨⟨f.length, f.lateness, f.windows, f.shards, f.spread, by simp, f.mode, f.slots, f.exact_, f.promote, f.depth, f.width, f.top, f.key, f.seed⟩, h.shards, h.windows, h.slots, h.exact_, h.depth, h.width, h.top, h.key⟩
theorem Mild.k {c : Cfg} (h : Mild c) (x : Int) (h0 : 5 ≤ x) (h1 : x ≤ 255) : Mild { c with key := x } :=
  have f := h.fine
  ⟨⟨f.length, f.lateness, f.windows, f.shards, f.spread, f.queue, f.mode, f.slots, f.exact_, f.promote, f.depth, f.width, f.top, ⟨by show 1 ≤ x; omega, h1⟩, f.seed⟩, h.shards, h.windows, h.slots, h.exact_, h.depth, h.width, h.top, h0⟩

def l5 : List (Int × Int) := [(8, 0), (24, 0), (32, 0), (80, 0), (256, 0)]
def l1 : List (Int × Int) := [(256, 0)]
/-- the classes are laid, without counts -/
def CL (w : World) (B g X : Nat) (wx : World) : Prop := ∃ (l : List (Int × Int)) (G n : Nat) (c : Cfg) (b : Nat) (ts : List Int), (l = l5 ∨ l = l1) ∧ n = l.length ∧ Blk wx G 101 (clv l).toArray ∧ w.heap.size ≤ G ∧ CSx w B g X (some ⟨G, 0, none⟩) n n c b ts wx
theorem clv_put : ∀ (l : List (Int × Int)) (i : Nat) (z : Int), i < l.length → (clv l).set (i * 2 + 1) (.int .i64 z) = clv (putN l i z)
  | c :: l, 0, z, _ => rfl
  | c :: l, i + 1, z, h => by
    have := clv_put l i z (by simpa using h)
    have e : (i + 1) * 2 + 1 = (i * 2 + 1) + 1 + 1 := by omega
    rw [e]
    show _ :: _ :: (clv l).set (i * 2 + 1) _ = _
    rw [this]
    unfold putN
    simp [clv]
theorem Mild.s {c : Cfg} (h : Mild { c with spread := 1 }) (x : Int) (h0 : 1 ≤ x) (h1 : x ≤ c.shards) : Mild { c with spread := x } :=
  have f := h.fine
  ⟨⟨f.length, f.lateness, f.windows, f.shards, ⟨h0, h1⟩, f.queue, f.mode, f.slots, f.exact_, f.promote, f.depth, f.width, f.top, f.key, f.seed⟩, h.shards, h.windows, h.slots, h.exact_, h.depth, h.width, h.top, h.key⟩
/-- ahead of the spread -/
def PS (w : World) (B g X : Nat) (wx : World) : Prop :=
  ∃ (c : Cfg) (b : Nat) (ts : List Int), Mild { c with spread := 1 } ∧ ts.length = 16 ∧ (∀ z ∈ ts, 0 ≤ z ∧ z < 18446744073709551616) ∧ Blk wx b 24 (ts.map (.int .u64)).toArray ∧ w.heap.size < b ∧
    Blk wx X 51 #[.int .i64 c.length, .int .i64 c.lateness, .int .i64 c.windows, .int .i64 c.shards, .int .i64 c.spread, .int .i64 c.queue, .int .i64 c.mode, .int .i64 c.slots, .int .i64 c.exact_, .int .u64 c.promote, .int .i64 c.depth, .int .i64 c.width, .int .i64 c.top, .int .i64 c.key, .slice none 0 0, .slice (some ⟨b, 0, none⟩) 16 16, .int .u64 c.seed] ∧ IsDeck wx B g ∧ Keeps (· = g) w wx ∧ Blk wx w.heap.size 51 #[.int .i64 0, .int .i64 0, .int .i64 0, .int .i64 0, .int .i64 0, .int .i64 0, .int .i64 0, .int .i64 0, .int .i64 0, .int .u64 0, .int .i64 0, .int .i64 0, .int .i64 0, .int .i64 0, .slice none 0 0, .slice none 0 0, .int .u64 0] ∧ w.heap.size < X
noncomputable def rg1 : Code := ((Try.f25.body.bind (findReg 1)).getD .skip)
set_option maxRecDepth 1000000 in
set_option maxHeartbeats 4000000 in
theorem reg1 (B g : Nat) (w w0 : World) (s1 s3 s4 s5 s6 s7 s8 s9 s10 s11 s12 s13 s14 s15 s16 s17 s18 s19 s20 s21 s22 s23 s24 s25 s26 s27 s28 s29 s30 s31 s32 s33 s34 s35 s36 s37 s38 s39 s40 s41 s42 s43 s44 s45 s46 s47 s48 s49 s50 s51 s52 s53 s54 s55 s56 s57 s58 s59 s60 s61 s62 s63 s64 s65 s66 s67 s68 s69 s70 s71 s72 s73 s74 s75 s76 s77 s78 s79 s80 s81 s82 s83 s84 s85 s86 s87 s88 s89 s90 s91 s92 s93 s94 s95 s96 : Value) (hb0' : Blk w0 w.heap.size 51 #[.int .i64 0, .int .i64 0, .int .i64 0, .int .i64 0, .int .i64 0, .int .i64 0, .int .i64 0, .int .i64 0, .int .i64 0, .int .u64 0, .int .i64 0, .int .i64 0, .int .i64 0, .int .i64 0, .slice none 0 0, .slice none 0 0, .int .u64 0]) (kk : Keeps (· = g) w w0) (d0 : IsDeck w0 B g) (hgl : g < w.heap.size) (hgB : B ≤ g) :
    Code.wp Try.prog rg1 (NormPost fun a' w'' => ∃ X : Nat, (∃ v7 v8 v9 v10 v11 v12 v13 v14 v15 v16 v17 v18 v19 v20 v21 v22 v23 v24 v25 v26 v27 v28 v29 v30 v31 v32 v33 v34 v35 v36 v37 v38 v39 v40 v41 v42 v43 v44 v45 : Value, a' = ⟨#[.pointer (some ⟨g, 0, none⟩), s1, .pointer (some ⟨w.heap.size, 0, none⟩), .pointer (some ⟨X, 0, none⟩), s4, s5, s6, v7, v8, v9, v10, v11, v12, v13, v14, v15, v16, v17, v18, v19, v20, v21, v22, v23, v24, v25, v26, v27, v28, v29, v30, v31, v32, v33, v34, v35, v36, v37, v38, v39, v40, v41, v42, v43, v44, v45, s46, s47, s48, s49, s50, s51, s52, s53, s54, s55, s56, s57, s58, s59, s60, s61, s62, s63, s64, s65, s66, s67, s68, s69, s70, s71, s72, s73, s74, s75, s76, s77, s78, s79, s80, s81, s82, s83, s84, s85, s86, s87, s88, s89, s90, s91, s92, s93, s94, s95, s96], []⟩) ∧ PS w B g X w'') ⟨#[.pointer (some ⟨g, 0, none⟩), s1, .pointer (some ⟨w.heap.size, 0, none⟩), s3, s4, s5, s6, s7, s8, s9, s10, s11, s12, s13, s14, s15, s16, s17, s18, s19, s20, s21, s22, s23, s24, s25, s26, s27, s28, s29, s30, s31, s32, s33, s34, s35, s36, s37, s38, s39, s40, s41, s42, s43, s44, s45, s46, s47, s48, s49, s50, s51, s52, s53, s54, s55, s56, s57, s58, s59, s60, s61, s62, s63, s64, s65, s66, s67, s68, s69, s70, s71, s72, s73, s74, s75, s76, s77, s78, s79, s80, s81, s82, s83, s84, s85, s86, s87, s88, s89, s90, s91, s92, s93, s94, s95, s96], []⟩ w0 := by
  have hb0 := hide hb0'
  have K0 := hide (Keeps.refl (· = g) w0)
  have hl0 := hb0'.lt
  have KK := hide kk
  clear hb0' kk
  conv => arg 2; whnf
  dsimp only
  go_wp2_with fail
  refine (next_any 20 (by omega) (by omega) B g _ d0).mono ?_
  rintro e w1 ⟨x1, rfl, a1, b1, d1, k1⟩
  have K1 := hide (K0.out.trans k1)
  clear k1 d0 K0
  have p1 : IntKind.i64.wrap (1 + x1) = 1 + x1 := IntWalk.i64_in _ (by omega)
  go_wp2_with fail
  refine (next_any 15 (by omega) (by omega) B g _ d1).mono ?_
  rintro e w2 ⟨x2, rfl, a2, b2, d2, k1⟩
  have K2 := hide (K1.out.trans k1)
  clear k1 d1 K1
  go_wp2_with fail
  refine (next_any 4 (by omega) (by omega) B g _ d2).mono ?_
  rintro e w3 ⟨x3, rfl, a3, b3, d3, k1⟩
  have K3 := hide (K2.out.trans k1)
  clear k1 d2 K2
  have p3 : IntKind.i64.wrap (1 + x3) = 1 + x3 := IntWalk.i64_in _ (by omega)
  go_wp2_with fail
  refine (next_any 4 (by omega) (by omega) B g _ d3).mono ?_
  rintro e w4 ⟨x4, rfl, a4, b4, d4, k1⟩
  have K4 := hide (K3.out.trans k1)
  clear k1 d3 K3
  have p4 : IntKind.i64.wrap (1 + x4) = 1 + x4 := IntWalk.i64_in _ (by omega)
  go_wp2_with fail
  refine (next_any 8 (by omega) (by omega) B g _ d4).mono ?_
  rintro e w5 ⟨x5, rfl, a5, b5, d5, k1⟩
  have K5 := hide (K4.out.trans k1)
  clear k1 d4 K4
  have p5 : IntKind.i64.wrap (1 + x5) = 1 + x5 := IntWalk.i64_in _ (by omega)
  go_wp2_with fail
  refine (next_any 2 (by omega) (by omega) B g _ d5).mono ?_
  rintro e w6 ⟨x6, rfl, a6, b6, d6, k1⟩
  have K6 := hide (K5.out.trans k1)
  clear k1 d5 K5
  have p6 : IntKind.i64.wrap (1 + x6) = 1 + x6 := IntWalk.i64_in _ (by omega)
  go_wp2_with fail
  refine (next_any 4 (by omega) (by omega) B g _ d6).mono ?_
  rintro e w7 ⟨x7, rfl, a7, b7, d7, k1⟩
  have K7 := hide (K6.out.trans k1)
  clear k1 d6 K6
  have p7 : IntKind.i64.wrap (1 + x7) = 1 + x7 := IntWalk.i64_in _ (by omega)
  go_wp2_with fail
  refine (next_any 4 (by omega) (by omega) B g _ d7).mono ?_
  rintro e w8 ⟨x8, rfl, a8, b8, d8, k1⟩
  have K8 := hide (K7.out.trans k1)
  clear k1 d7 K7
  go_wp2_with fail
  refine (next_any 40 (by omega) (by omega) B g _ d8).mono ?_
  rintro e w9 ⟨x9, rfl, a9, b9, d9, k1⟩
  have K9 := hide (K8.out.trans k1)
  clear k1 d8 K8
  go_wp2_with fail
  refine (next_any 3 (by omega) (by omega) B g _ d9).mono ?_
  rintro e w10 ⟨x10, rfl, a10, b10, d10, k1⟩
  have K10 := hide (K9.out.trans k1)
  clear k1 d9 K9
  have p10 : IntKind.i64.wrap (1 + x10) = 1 + x10 := IntWalk.i64_in _ (by omega)
  go_wp2_with fail
  refine (next_any 9 (by omega) (by omega) B g _ d10).mono ?_
  rintro e w11 ⟨x11, rfl, a11, b11, d11, k1⟩
  have K11 := hide (K10.out.trans k1)
  clear k1 d10 K10
  have p11 : IntKind.i64.wrap (1 + x11) = 1 + x11 := IntWalk.i64_in _ (by omega)
  go_wp2_with fail
  refine (next_any 6 (by omega) (by omega) B g _ d11).mono ?_
  rintro e w12 ⟨x12, rfl, a12, b12, d12, k1⟩
  have K12 := hide (K11.out.trans k1)
  clear k1 d11 K11
  have p12 : IntKind.i64.wrap (1 + x12) = 1 + x12 := IntWalk.i64_in _ (by omega)
  have p9 : IntKind.u64.wrap x9 = x9 := IntWalk.u64_in _ (by omega)
  go_wp2_with fail
  refine (table_any B g _ d12).mono ?_
  rintro e w13 ⟨b, ts, rfl, tl, tb, tk, tw, d13, k1⟩
  have K13 := hide (K12.out.trans k1)
  have HT := hide tk
  have hs12 : w.heap.size < w12.heap.size := by have := K12.out.size; omega
  clear k1 d12 tk
  go_wp2_with fail
  refine (word_any B g _ d13).mono ?_
  rintro e w14 ⟨sd, rfl, s0, s1, d14, k1⟩
  have K14 := hide (K13.out.trans k1)
  have HT14 := hide (HT.out.kept k1 (by have := K12.out.size; omega))
  clear k1 d13 HT K13 K12
  have htw : w.heap.size < b := by
    have := hs12
    omega
  trace "BUILD"
  have d15 := hide (d14.kept ((Keeps.refl (fun _ => False) w14).alloc (.cells #[.int .i64 (1 + x1), .int .i64 x2, .int .i64 (1 + x3), .int .i64 (1 + x4), .int .i64 0, .int .i64 (1 + x5), .int .i64 (1 + x6), .int .i64 (1 + x7), .int .i64 x8, .int .u64 x9, .int .i64 (1 + x10), .int .i64 (1 + x11), .int .i64 (1 + x12), .int .i64 255, .slice none 0 0, .slice (some ⟨b, 0, none⟩) 16 16, .int .u64 sd] 51)) (fun h => h) (fun _ _ h => h))
  clear d14
  go_wp2_with fail
  trace "END"
  have k15 : Keeps (fun _ => False) w14 (w14.alloc (.cells #[.int .i64 (1 + x1), .int .i64 x2, .int .i64 (1 + x3), .int .i64 (1 + x4), .int .i64 0, .int .i64 (1 + x5), .int .i64 (1 + x6), .int .i64 (1 + x7), .int .i64 x8, .int .u64 x9, .int .i64 (1 + x10), .int .i64 (1 + x11), .int .i64 (1 + x12), .int .i64 255, .slice none 0 0, .slice (some ⟨b, 0, none⟩) 16 16, .int .u64 sd] 51)) := (Keeps.refl _ _).alloc _
  have hX : w.heap.size < w14.heap.size := by have := K14.out.size; omega
  refine ⟨w14.heap.size, ⟨_, _, _, _, _, _, _, _, _, _, _, _, _, _, _, _, _, _, _, _, _, _, _, _, _, _, _, _, _, _, _, _, _, _, _, _, _, _, _, rfl⟩, ⟨1 + x1, x2, 1 + x3, 1 + x4, 0, 1 + x5, 1 + x6, 1 + x7, x8, x9, 1 + x10, 1 + x11, 1 + x12, 255, sd⟩, b, ts, ?_, tl, tb, HT14.out.kept k15 (fun h => h), htw, Blk.new _ _ _, d15.out, (KK.out.trans K14.out).step0 k15, (hb0.out.kept K14.out (by omega)).kept k15 (fun h => h), hX⟩
  refine ⟨⟨?_, ?_, ?_, ?_, ?_, ?_, ?_, ?_, ?_, ?_, ?_, ?_, ?_, ?_, ?_⟩, ?_, ?_, ?_, ?_, ?_, ?_, ?_, ?_⟩ <;> (dsimp only; omega)
end Go.Proofs.Ytaiopdipldaimaa
