/-
  Deck.Summary by its contract. No conditions beyond those of the statement.
-/
import Derived.Test.YtaiopdipldaimaaGF
import Derived.Test.YtaiopdipldaimaaCfg
set_option linter.unusedVariables false
set_option linter.unusedSimpArgs false
namespace Go.Proofs.Ytaiopdipldaimaa
open Go.RowKit Cfp
/-- what Deck.Summary gives: a valid summary, in memory of its own -/
def Sums (w : World) (B g : Nat) (c : Cfg) (e : Ending) (w' : World) : Prop :=
  ∃ (tot un left : Int) (kb : Nat) (l : List Ln) (P : List (Nat × List Int)) (A : Option Addr) (cA : Nat) (R : Option Addr) (cR : Nat),
    e = .returned (.agg #[.int .u64 tot, .slice A l.length cA, .int .u64 un, .slice R P.length cR]) ∧ (0 ≤ tot ∧ tot ≤ 9223372036854775808) ∧ (0 ≤ un ∧ un ≤ tot) ∧ l.length ≤ 4 ∧ EOk tot left kb l ∧
    Own w' w.heap.size 99 3 A l.length cA (lnCs l) ∧ (P = [] ∨ (P.length : Int) = c.depth) ∧ Own w' w.heap.size 31 1 R P.length cR (dsum.rcs c.width.toNat P) ∧
    (∀ p ∈ P, w.heap.size ≤ p.1 ∧ p.2.length = c.width.toNat ∧ (∀ z ∈ p.2, 0 ≤ z ∧ z ≤ tot) ∧ Blk w' p.1 24 (p.2.map (.int .u64)).toArray) ∧ IsDeck w' B g ∧ Keeps (· = g) w w'
/-- behind the total -/
def SMid (w : World) (B g X3 X4 X5 : Nat) (c : Cfg) (C T : Option Addr) (n k q j : Nat) (wx : World) : Prop :=
  ∃ tot : Int, (0 ≤ tot ∧ tot ≤ 9223372036854775808) ∧ Blk wx X5 45 #[.int .u64 tot, .slice none 0 0, .int .u64 0, .slice none 0 0] ∧ Blk wx X3 51 #[.int .i64 c.length, .int .i64 c.lateness, .int .i64 c.windows, .int .i64 c.shards, .int .i64 c.spread, .int .i64 c.queue, .int .i64 c.mode, .int .i64 c.slots, .int .i64 c.exact_, .int .u64 c.promote, .int .i64 c.depth, .int .i64 c.width, .int .i64 c.top, .int .i64 c.key, .slice C n k, .slice T q j, .int .u64 c.seed] ∧ Blk wx X4 45 #[.int .u64 0, .slice none 0 0, .int .u64 0, .slice none 0 0] ∧ IsDeck wx B g ∧ Keeps (· = g) w wx
set_option maxRecDepth 1000000 in
set_option maxHeartbeats 4000000 in
theorem dsummary_any (B g : Nat) (w : World) (h : IsDeck w B g) (c : Cfg) (hm : Mild c) (C T : Option Addr) (n k q j : Nat) : Calls Try.prog 24 #[.pointer (some ⟨g, 0, none⟩), Value.agg #[.int .i64 c.length, .int .i64 c.lateness, .int .i64 c.windows, .int .i64 c.shards, .int .i64 c.spread, .int .i64 c.queue, .int .i64 c.mode, .int .i64 c.slots, .int .i64 c.exact_, .int .u64 c.promote, .int .i64 c.depth, .int .i64 c.width, .int .i64 c.top, .int .i64 c.key, .slice C n k, .slice T q j, .int .u64 c.seed]] w (Sums w B g c) := by
  have hgl := h.lt
  have hgB := h.le
  obtain ⟨w2, hw2⟩ : ∃ w2, w2 = (w.alloc (.cells #[.int .i64 c.length, .int .i64 c.lateness, .int .i64 c.windows, .int .i64 c.shards, .int .i64 c.spread, .int .i64 c.queue, .int .i64 c.mode, .int .i64 c.slots, .int .i64 c.exact_, .int .u64 c.promote, .int .i64 c.depth, .int .i64 c.width, .int .i64 c.top, .int .i64 c.key, .slice C n k, .slice T q j, .int .u64 c.seed] 51)).alloc (.cells #[.int .u64 0, .slice none 0 0, .int .u64 0, .slice none 0 0] 45) := ⟨_, rfl⟩
  have kw2 : Keeps (fun _ => False) w w2 := by rw [hw2]; exact ((Keeps.refl _ _).alloc _).alloc _
  have B3 : Hid (Blk w2 w.heap.size 51 #[.int .i64 c.length, .int .i64 c.lateness, .int .i64 c.windows, .int .i64 c.shards, .int .i64 c.spread, .int .i64 c.queue, .int .i64 c.mode, .int .i64 c.slots, .int .i64 c.exact_, .int .u64 c.promote, .int .i64 c.depth, .int .i64 c.width, .int .i64 c.top, .int .i64 c.key, .slice C n k, .slice T q j, .int .u64 c.seed]) := hide (by rw [hw2]; exact (Blk.new _ _ _).alloc _)
  have B4 : Hid (Blk w2 (w.heap.size + 1) 45 #[.int .u64 0, .slice none 0 0, .int .u64 0, .slice none 0 0]) := hide (by rw [hw2]; exact Blk.new_at _ _ _ _ (by simp))
  have K2 := hide ((Keeps.refl (· = g) w).step kw2 (fun _ _ h => h.elim))
  have D2 := hide (h.kept kw2 (fun h => h) (fun _ _ h => h))
  have HM := hide hm
  have HW2 := hide hw2
  have hsz2 : w2.heap.size = w.heap.size + 2 := by rw [hw2]; simp
  clear hw2 kw2 h hm
  go_enter Try.func24, Try.ntmps24
  go_upto_region 1 with fail
  rw [← HW2.out]
  clear HW2
  generalize hX3 : w.heap.size = X3 at *
  generalize hX4 : X3 + 1 = X4 at *
  go_wp2_with fail
  refine (next_any _ (by omega) (by omega) B g _ D2.out).mono ?_
  rintro e w3 ⟨x, rfl, x0, x1, hd, k2⟩
  have u1 : IntKind.u64.wrap x = x := IntWalk.u64_in _ (by omega)
  have B3 := hide (B3.out.kept k2 (by omega))
  have B4 := hide (B4.out.kept k2 (by omega))
  have kA := (Keeps.refl (fun _ => False) w3).alloc (.cells #[.int .u64 x, .slice none 0 0, .int .u64 0, .slice none 0 0] 45)
  have B5 := hide (Blk.new w3 45 #[.int .u64 x, .slice none 0 0, .int .u64 0, .slice none 0 0])
  have B3 := hide (B3.out.kept kA (fun h => h))
  have B4 := hide (B4.out.kept kA (fun h => h))
  have D3 := hide (hd.kept kA (fun h => h) (fun _ _ h => h))
  have K3 := hide ((K2.out.trans k2).step0 kA)
  have hk2s := k2.size
  clear hd k2 kA D2 K2
  go_upto_region 2 with fail
  trace "R2"
  generalize w3.alloc _ = w4 at *
  generalize w3.heap.size = X5 at *
  have hX54 : X5 < w4.heap.size := B5.out.lt
  go_wp2_with fail
  refine (next_any _ (by omega) (by omega) B g _ D3.out).mono ?_
  rintro e w5 ⟨y, rfl, x0, x1, hd, k2⟩
  have B3 := hide (B3.out.kept k2 (by omega))
  have B4 := hide (B4.out.kept k2 (by omega))
  have B5 := hide (B5.out.kept k2 (by omega))
  have D5 := hide hd
  have K5 := hide (K3.out.trans k2)
  have hk5s := k2.size
  clear hd k2 D3 K3
  have hsh := HM.out.fine.shards
  have hsh4 := HM.out.shards
  go_upto_if 19 with fail
  trace "IF19"
  go_cut [] from 19 to 25 (SMid w B g X3 X4 X5 c C T n k q j)
  case first =>
    have c3 : w5.cell? ⟨X3, 3, none⟩ = some (.int .i64 c.shards) := B3.out.cell 3
    have c50 : w5.cell? ⟨X5, 0, none⟩ = some (.int .u64 x) := B5.out.cell 0
    have f50 := B5.out.frozen 0
    have e1 : IntKind.i64.wrap (2 * c.shards) = 2 * c.shards := IntWalk.i64_in _ (by omega)
    have e2 : IntKind.u64.wrap (2 * c.shards) = 2 * c.shards := IntWalk.u64_in _ (by omega)
    obtain ⟨qv, hq, q0, q1⟩ : ∃ qv, Int.tdiv 9223372036854775808 (2 * c.shards) = qv ∧ 0 ≤ qv ∧ qv ≤ 9223372036854775808 := ⟨_, rfl, by rw [Int.tdiv_eq_ediv_of_nonneg (by omega)]; exact Int.ediv_nonneg (by omega) (by omega), by rw [Int.tdiv_eq_ediv_of_nonneg (by omega)]; exact Int.ediv_le_self _ (by omega)⟩
    have e3 : IntKind.u64.wrap qv = qv := IntWalk.u64_in _ (by omega)
    have hz1 : ¬ (2 * c.shards = 0) := by omega
    have hz2 : ¬ (c.shards = 0) := by omega
    have kS : ∀ v, Keeps (· = X5) w5 (w5.setCell ⟨X5, 0, none⟩ v) := fun v => Keeps.setCell (S := (· = X5)) (p := ⟨X5, 0, none⟩) (Keeps.refl _ _) (.inl rfl) _
    have HKS := hide kS
    have HXX : X3 < X5 ∧ X4 < X5 ∧ g < X3 ∧ X3 < X4 := by omega
    clear kS
    rcases e19 : (y == 1) with _ | _
    · go_wp2_with fail
      trace "NO"
      go_meet
      exact ⟨x, by omega, B5.out, B3.out, B4.out, D5.out, K5.out⟩
    · go_wp2_with fail
      trace "YES"
      go_meet
      refine ⟨qv, ⟨q0, q1⟩, B5.out.set 0 _, B3.out.kept (HKS.out _) (by omega), B4.out.kept (HKS.out _) (by omega), D5.out.kept (HKS.out _) (by omega) (fun b hb => by omega), K5.out.step (HKS.out _) (fun b hb e => by omega)⟩
  case rest =>
  obtain ⟨tot, ⟨t0, t1⟩, b5, b3, b4, d6, k6⟩ := hcut
  have B5 := hide b5
  have B3 := hide b3
  have B4 := hide b4
  have D6 := hide d6
  have K6 := hide k6
  clear b5 b3 b4 d6 k6 K5 D5 x0 x1 u1
  trace "REST"
  have HXX : Hid (X3 < X5 ∧ X4 < X5 ∧ g < X3 ∧ X3 < X4) := hide (by omega)
  have c50 : wc.cell? ⟨X5, 0, none⟩ = some (.int .u64 tot) := B5.out.cell 0
  have HGl : Hid (w.heap.size = X3) := hide hX3
  clear hX3 hX4 hsz2
  go_wp2_with fail
  refine (next_any _ (by omega) (by omega) B g _ D6.out).mono ?_
  rintro e w7 ⟨kv, rfl, x0, x1, hd, k2⟩
  have B3 := hide (B3.out.kept k2 (by have := HXX.out; omega))
  have B4 := hide (B4.out.kept k2 (by have := HXX.out; omega))
  have B5 := hide (B5.out.kept k2 (by have := HXX.out; omega))
  have D7 := hide hd
  have K7 := hide (K6.out.trans k2)
  have hX57 := B5.out.lt
  clear hd k2 D6 K6 c50
  go_wp2_with fail
  trace "LOOP1"
  refine Code.wp_mono ?_ (dsum.loop1 B g X5 w7 tot t0 t1 kv x0 (by omega) D7.out (by have := HXX.out; omega) (by have := HXX.out; omega) B5.out _ _ _ _ _ _ _ _ _ _ _ _ _ _ _ _ _ _ _ _ _ _ _ _ _ _ _ _ _ _ _ _ _ _ _ _ _ _ _ _ _ _ _ _ _ _ _ _ _ _ _ _ _ _ _ _ _ _ _ _ _ _ _ _ _ _ _ _ _ _ _ _ _ _ _ _ _ _ _ _ _ _ _ _ _ _ _ _ _ _ _ _ _ _ _ _ _ _ _ _ _ _ _ _ _ _ _ _ _ _ _ _ _)
  intro e a' w8 hex
  cases e <;> (first | exact hex.elim | skip)
  obtain ⟨rfl, left, kb, l, A, cA, hl4, LS, ⟨u6, u7, u8, u9, u30, u31, u32, u33, u34, u35, u36, u37, u38, u39, u40, u41, u42, u43, u44, u45, u46, u47, u48, u49, u50, u51, u52, u53, u54, u55, u56, u57, u58, u59, u60, u61, u62, u63, u64, u65, u66, u67, u68, u69, u70, u71, u72, u73, u74, rfl⟩⟩ := hex
  have hk8 := LS.kp
  have B3 := hide (B3.out.kept hk8 (by have := HXX.out; omega))
  have B4 := hide (B4.out.kept hk8 (by have := HXX.out; omega))
  have K8 := hide (K7.out.step hk8 (fun b hb e => by have := HXX.out; have := HGl.out; rcases e with e | e; exact e; omega))
  have hs78 := hk8.size
  have hs7 : X3 < w7.heap.size := by have := HXX.out; omega
  have HOK := hide LS.ok
  have OE := hide LS.own
  have B5 := hide LS.blk
  have D8 := hide LS.dk
  clear LS hk8 D7 K7
  dsimp only
  go_upto_region 14 with fail
  trace "R14"
  refine Code.wp_mono ?_ (dsum.reg14 B g X5 w8 tot _ _ t0 t1 D8.out (by have := HXX.out; omega) (by have := HXX.out; omega) B5.out _ _ _ _ _ _ _ _ _ _ _ _ _ _ _ _ _ _ _ _ _ _ _ _ _ _ _ _ _ _ _ _ _ _ _ _ _ _ _ _ _ _ _ _ _ _ _ _ _ _ _ _ _ _ _ _ _ _ _ _ _ _ _ _ _ _ _ _ _ _ _ _ _ _ _ _ _ _ _ _ _ _ _ _ _ _ _ _ _ _ _ _ _ _ _ _ _ _ _ _ _ _ _ _ _ _ _ _ _ _ _ _ _ _ _ _)
  intro e a' w9 hex
  cases e <;> (first | exact hex.elim | skip)
  obtain ⟨un, ⟨un0, un1⟩, b5, d9, k9, ⟨v75, v76, v77, v78, v79, v80, v81, v82, rfl⟩⟩ := hex
  have B5 := hide b5
  have D9 := hide d9
  have B3 := hide (B3.out.kept k9 (by have := HXX.out; omega))
  have B4 := hide (B4.out.kept k9 (by have := HXX.out; omega))
  have K9 := hide (K8.out.step k9 (fun b hb e => by have := HXX.out; have := HGl.out; rcases e with e | e; exact e; omega))
  have OE := hide (OE.out.kept k9 (fun b hb e => by have := (OE.out.inB hb).1; have := HXX.out; rcases e with e | e <;> omega))
  have hs89 := k9.size
  clear b5 d9 k9 D8 K8
  dsimp only
  trace "R15"
  go_wp2_with fail
  refine (next_any _ (by omega) (by omega) B g _ D9.out).mono ?_
  rintro e wa ⟨zv, rfl, x0, x1, hd, k2⟩
  have B3 := hide (B3.out.kept k2 (by have := HXX.out; omega))
  have B4 := hide (B4.out.kept k2 (by have := HXX.out; omega))
  have B5 := hide (B5.out.kept k2 (by have := HXX.out; omega))
  have OE := hide (OE.out.kept k2 (fun b hb e => by have := (OE.out.inB hb).1; have := HXX.out; omega))
  have Da := hide hd
  have Ka := hide (K9.out.trans k2)
  have hs9a := k2.size
  clear hd k2 D9 K9
  have Hl4 := hide hl4
  clear hl4
  rcases e19 : (zv == 1) with _ | _
  · trace "A"
    have g0 : wa.cell? ⟨X5, 0, none⟩ = some (.int .u64 tot) := B5.out.cell 0
    have g1 : wa.cell? ⟨X5, 1, none⟩ = some (.slice A l.length cA) := B5.out.cell 1
    have g2 : wa.cell? ⟨X5, 2, none⟩ = some (.int .u64 un) := B5.out.cell 2
    have g3 : wa.cell? ⟨X5, 3, none⟩ = some (.slice none 0 0) := B5.out.cell 3
    have z0 := B4.out.cell 0
    have z1 := B4.out.cell 1
    have z2 := B4.out.cell 2
    have z3 := B4.out.cell 3
    have f0 := B4.out.frozen 0
    have f1 := B4.out.frozen 1
    have f2 := B4.out.frozen 2
    have f3 := B4.out.frozen 3
    go_wp2_with fail
    trace "FIN"
    have bS := (((B4.out.set 0 (.int .u64 tot)).set 1 (.slice A l.length cA)).set 2 (.int .u64 un)).set 3 (.slice none 0 0)
    have kS : Keeps (· = X4) wa ((((wa.setCell ⟨X4, 0, none⟩ (.int .u64 tot)).setCell ⟨X4, 1, none⟩ (.slice A l.length cA)).setCell ⟨X4, 2, none⟩ (.int .u64 un)).setCell ⟨X4, 3, none⟩ (.slice none 0 0)) := Keeps.setCell (S := (· = X4)) (p := ⟨X4, 3, none⟩) (Keeps.setCell (S := (· = X4)) (p := ⟨X4, 2, none⟩) (Keeps.setCell (S := (· = X4)) (p := ⟨X4, 1, none⟩) (Keeps.setCell (S := (· = X4)) (p := ⟨X4, 0, none⟩) (Keeps.refl _ _) (.inl rfl) _) (.inl rfl) _) (.inl rfl) _) (.inl rfl) _
    have r0 := bS.cell 0
    have r1 := bS.cell 1
    have r2 := bS.cell 2
    have r3 := bS.cell 3
    have OEx := OE.out.kept kS (fun b hb e => by have := (OE.out.inB hb).1; have := HXX.out; omega)
    have DKx := Da.out.kept kS (by have := HXX.out; omega) (fun b hb => by have := HXX.out; omega)
    have KKx := Ka.out.step kS (fun b hb e => by have := HXX.out; have := HGl.out; omega)
    clear z0 z1 z2 z3 f0 f1 f2 f3 g0 g1 g2 g3
    generalize (((wa.setCell _ _).setCell _ _).setCell _ _).setCell _ _ = wz at *
    refine bodyPost_ret (v := .agg #[.int .u64 tot, .slice A l.length cA, .int .u64 un, .slice none 0 0]) (by simp [results, Try.results24, go_sem, r0, r1, r2, r3]) rfl ?_
    exact ⟨tot, un, left, kb, l, [], A, cA, none, 0, rfl, ⟨t0, t1⟩, ⟨un0, un1⟩, Hl4.out, HOK.out, by rw [HGl.out]; exact (OEx.base_le (by omega)), .inl rfl, Own.nil _ _ _ _, fun p hp => (by cases hp), DKx, KKx⟩
  · obtain ⟨d, hd⟩ : ∃ d : Nat, c.depth = (d : Int) := ⟨c.depth.toNat, by have := HM.out.fine.depth; omega⟩
    obtain ⟨n', hn'⟩ : ∃ n : Nat, c.width = (n : Int) := ⟨c.width.toNat, by have := HM.out.fine.width; omega⟩
    have c10 : wa.cell? ⟨X3, 10, none⟩ = some (.int .i64 (d : Int)) := by rw [← hd]; exact B3.out.cell 10
    have c11 : wa.cell? ⟨X3, 11, none⟩ = some (.int .i64 (n' : Int)) := by rw [← hn']; exact B3.out.cell 11
    have hd3 : d ≤ 4 := by have := HM.out.depth; omega
    have hn9 : n' ≤ 256 := by have := HM.out.width; omega
    have HDn := hide (⟨hd, hn'⟩ : c.depth = (d : Int) ∧ c.width = (n' : Int))
    clear hd hn'
    go_wp2_with fail
    trace "LOOP2"
    refine Code.wp_mono ?_ (dsum.loop2 B g X3 X5 n' d wa tot (.slice A l.length cA) (.int .u64 un) t0 t1 hn9 hd3 (by have := HXX.out; omega) (by have := HXX.out; omega) (by have := HXX.out; omega) (by have := HXX.out; omega) c10 c11 ⟨fun p hp => (by cases hp), Own.nil _ _ _ _, B5.out, Da.out, Keeps.refl _ _⟩ _ _ _ _ _ _ _ _ _ _ _ _ _ _ _ _ _ _ _ _ _ _ _ _ _ _ _ _ _ _ _ _ _ _ _ _ _ _ _ _ _ _ _ _ _ _ _ _ _ _ _ _ _ _ _ _ _ _ _ _ _ _ _ _ _ _ _ _ _ _ _ _ _ _ _ _ _ _ _ _ _ _ _ _ _ _ _ _ _ _ _ _ _ _ _ _ _ _ _ _ _ _ _ _ _ _ _ _ _ _ _ _ _ _)
    intro e a' wb hex
    cases e <;> (first | exact hex.elim | skip)
    obtain ⟨rfl, P, R, cR, hPd, ⟨hP, hRo, b5, db, kb2⟩, ⟨y10, y11, y12, y86, y87, y88, y89, y90, y91, y92, y93, y94, y95, y96, y97, y98, y99, y100, y101, y102, y103, y104, y105, y106, y107, y108, y109, y110, y111, y112, y113, y114, y115, y116, rfl⟩⟩ := hex
    have B4 := hide (B4.out.kept kb2 (by have := HXX.out; omega))
    have OE := hide (OE.out.kept kb2 (fun b hb e => by have := (OE.out.inB hb).1; have := HXX.out; rcases e with e | e <;> omega))
    have Kb := hide (Ka.out.step kb2 (fun b hb e => by have := HXX.out; have := HGl.out; rcases e with e | e; exact e; omega))
    have B5 := hide b5
    have Db := hide db
    have HP := hide hP
    have HRo := hide hRo
    have HPd := hide hPd
    have hsab := kb2.size
    clear hPd hP hRo b5 db kb2 c10 c11 Ka Da
    dsimp only
    have g0 : wb.cell? ⟨X5, 0, none⟩ = some (.int .u64 tot) := B5.out.cell 0
    have g1 : wb.cell? ⟨X5, 1, none⟩ = some (.slice A l.length cA) := B5.out.cell 1
    have g2 : wb.cell? ⟨X5, 2, none⟩ = some (.int .u64 un) := B5.out.cell 2
    have g3 : wb.cell? ⟨X5, 3, none⟩ = some (.slice R P.length cR) := B5.out.cell 3
    have z0 := B4.out.cell 0
    have z1 := B4.out.cell 1
    have z2 := B4.out.cell 2
    have z3 := B4.out.cell 3
    have f0 := B4.out.frozen 0
    have f1 := B4.out.frozen 1
    have f2 := B4.out.frozen 2
    have f3 := B4.out.frozen 3
    go_wp2_with fail
    trace "FIN"
    have bS := (((B4.out.set 0 (.int .u64 tot)).set 1 (.slice A l.length cA)).set 2 (.int .u64 un)).set 3 (.slice R P.length cR)
    have kS : Keeps (· = X4) wb ((((wb.setCell ⟨X4, 0, none⟩ (.int .u64 tot)).setCell ⟨X4, 1, none⟩ (.slice A l.length cA)).setCell ⟨X4, 2, none⟩ (.int .u64 un)).setCell ⟨X4, 3, none⟩ (.slice R P.length cR)) := Keeps.setCell (S := (· = X4)) (p := ⟨X4, 3, none⟩) (Keeps.setCell (S := (· = X4)) (p := ⟨X4, 2, none⟩) (Keeps.setCell (S := (· = X4)) (p := ⟨X4, 1, none⟩) (Keeps.setCell (S := (· = X4)) (p := ⟨X4, 0, none⟩) (Keeps.refl _ _) (.inl rfl) _) (.inl rfl) _) (.inl rfl) _) (.inl rfl) _
    have r0 := bS.cell 0
    have r1 := bS.cell 1
    have r2 := bS.cell 2
    have r3 := bS.cell 3
    have OEx := OE.out.kept kS (fun b hb e => by have := (OE.out.inB hb).1; have := HXX.out; omega)
    have DKx := Db.out.kept kS (by have := HXX.out; omega) (fun b hb => by have := HXX.out; omega)
    have KKx := Kb.out.step kS (fun b hb e => by have := HXX.out; have := HGl.out; omega)
    clear z0 z1 z2 z3 f0 f1 f2 f3 g0 g1 g2 g3
    generalize (((wb.setCell _ _).setCell _ _).setCell _ _).setCell _ _ = wz at *
    refine bodyPost_ret (v := .agg #[.int .u64 tot, .slice A l.length cA, .int .u64 un, .slice R P.length cR]) (by simp [results, Try.results24, go_sem, r0, r1, r2, r3]) rfl ?_
    have hw : c.width.toNat = n' := by have := HDn.out.2; omega
    refine ⟨tot, un, left, kb, l, P, A, cA, R, cR, rfl, ⟨t0, t1⟩, ⟨un0, un1⟩, Hl4.out, HOK.out, by rw [HGl.out]; exact (OEx.base_le (by omega)), .inr (by rw [HPd.out, HDn.out.1]), ?_, fun p hp => ?_, DKx, KKx⟩
    · rw [hw, HGl.out]
      exact (HRo.out.kept kS (fun b hb e => by have := (HRo.out.inB hb).1; have := HXX.out; omega)).base_le (by omega)
    · obtain ⟨p1, p2, p3, p4⟩ := HP.out p hp
      exact ⟨by have := HGl.out; omega, by rw [hw]; exact p2, p3, p4.kept kS (by have := HXX.out; omega)⟩
end Go.Proofs.Ytaiopdipldaimaa
