
/-
  The law's spoilt by its contract: a summary of which a number or a key is changed. No conditions beyond those of the statement.
-/
import Derived.Test.YtaiopdipldaimaaZa
import Derived.Deep.CutRange
import Derived.Deep.RegionLaw
import Derived.OrdersHeld
import Derived.Test.YtaiopdipldaimaaHn
set_option linter.unusedVariables false
set_option linter.unusedSimpArgs false
namespace Go.Proofs.Ytaiopdipldaimaa
open Go.RowKit Cfp
theorem i64_and7t (n : Int) : ∃ k : Nat, bits .and .i64 n 7 = (k : Int) ∧ k < 8 := by
  have h15 : (BitVec.ofInt 64 7).toNat = 2 ^ 3 - 1 := by decide
  have key : (BitVec.ofInt 64 n &&& BitVec.ofInt 64 7).toNat = (n % ((2 ^ 64 : Nat) : Int)).toNat % 2 ^ 3 := by
    rw [BitVec.toNat_and, BitVec.toNat_ofInt, h15, Nat.and_two_pow_sub_one_eq_mod]
  refine ⟨(n % 8).toNat, ?_, by omega⟩
  show IntKind.i64.wrap ((BitVec.ofInt 64 n &&& BitVec.ofInt 64 7).toNat : Nat) = _
  rw [key, IntKind.wrap_i64]
  omega
namespace sp21
structure SpE (w : World) (X3 X6 : Nat) (tot un : Int) (A : Option Addr) (n cA : Nat) (l : List Ln) (R : Option Addr) (m cR : Nat) (Q : List Rw) (wx : World) : Prop where
  ow : Own wx w.heap.size 99 3 A n cA (lnCs l)
  rw : RwS wx w.heap.size R cR Q
  b3 : Blk wx X3 45 (smC tot A n cA un R m cR)
  b6 : Blk wx X6 45 (smC 0 none 0 0 0 none 0 0)
  num : ∀ x ∈ l, U x.lo ∧ U x.hi ∧ x.key.size ≤ 140737488351232
  bd : (U tot ∧ U un) ∧ n ≤ 1000 ∧ Q.length = m ∧ m ≤ 8
  kp : Keeps (fun _ => False) w wx
theorem SpE.upd {w wx w' : World} {X3 X6 : Nat} {tot un : Int} {A R : Option Addr} {n cA m cR : Nat} {l : List Ln} {Q : List Rw} (h : SpE w X3 X6 tot un A n cA l R m cR Q wx) (hX : X3 = w.heap.size ∧ X3 < X6) (k : Keeps (· = X3) wx w') (tot' un' : Int) (b3 : Blk w' X3 45 (smC tot' A n cA un' R m cR)) (ht : U tot' ∧ U un') :
    SpE w X3 X6 tot' un' A n cA l R m cR Q w' :=
  ⟨h.ow.kept k (fun b hb e => h.ow.ne_blk h.b3 (by decide) hb e),
   h.rw.kept k (fun b _ _ e => by subst e; exact ⟨fun c hc => hc.ne h.b3 (by decide) rfl, fun c hc => hc.ne h.b3 (by decide) rfl⟩),
   b3, h.b6.kept k (by omega), h.num, ⟨ht, h.bd.2⟩, h.kp.step k (fun b hb e => by omega)⟩
theorem SpE.ent {w wx w' : World} {X3 X6 : Nat} {tot un : Int} {gA : Nat} {R : Option Addr} {n cA m cR : Nat} {l : List Ln} {Q : List Rw} (h : SpE w X3 X6 tot un (some ⟨gA, 0, none⟩) n cA l R m cR Q wx) (hn : 0 < n) (k : Keeps (· = gA) wx w') (l' : List Ln) (ho : Own w' w.heap.size 99 3 (some ⟨gA, 0, none⟩) n cA (lnCs l')) (hnum : ∀ x ∈ l', U x.lo ∧ U x.hi ∧ x.key.size ≤ 140737488351232) :
    SpE w X3 X6 tot un (some ⟨gA, 0, none⟩) n cA l' R m cR Q w' := by
  obtain ⟨c, hc⟩ := h.ow.blk ((inB_some gA 0 gA).2 rfl)
  have hge := h.ow.inB ((inB_some gA 0 gA).2 rfl)
  exact ⟨ho, h.rw.kept k (fun b _ _ e => by subst e; exact ⟨fun c' hc' => hc'.ne hc (by decide) rfl, fun c' hc' => hc'.ne hc (by decide) rfl⟩),
    h.b3.kept k (fun e => h.b3.ne hc (by decide) e), h.b6.kept k (fun e => h.b6.ne hc (by decide) e), hnum, h.bd, h.kp.step k (fun b hb e => by omega)⟩
theorem SpE.quiet {w wx w' : World} {X3 X6 : Nat} {tot un : Int} {A R : Option Addr} {n cA m cR : Nat} {l : List Ln} {Q : List Rw} (h : SpE w X3 X6 tot un A n cA l R m cR Q wx) (k : Keeps (fun _ => False) wx w') : SpE w X3 X6 tot un A n cA l R m cR Q w' :=
  ⟨h.ow.kept k (fun _ _ h => h), h.rw.quiet k, h.b3.kept k (fun h => h), h.b6.kept k (fun h => h), h.num, h.bd, h.kp.trans k⟩
/-- the rows are changed -/
theorem SpE.rws {w wx w' : World} {X3 X6 : Nat} {tot un : Int} {A R : Option Addr} {n cA m cR : Nat} {l : List Ln} {Q : List Rw} (h : SpE w X3 X6 tot un A n cA l R m cR Q wx) {S : Nat → Prop} (k : Keeps S wx w') (hS : ∀ b, b < wx.heap.size → S b → w.heap.size ≤ b ∧ ((∃ c, Blk wx b 24 c) ∨ (∃ c, Blk wx b 31 c))) (Q' : List Rw) (hq : Q'.length = Q.length) (hr : RwS w' w.heap.size R cR Q') :
    SpE w X3 X6 tot un A n cA l R m cR Q' w' :=
  ⟨h.ow.kept k (fun b hb e => by
      obtain ⟨_, ⟨c, hc⟩ | ⟨c, hc⟩⟩ := hS b (h.ow.inB hb).2 e
      · exact h.ow.ne_blk hc (by decide) hb rfl
      · exact h.ow.ne_blk hc (by decide) hb rfl), hr,
   h.b3.kept k (fun e => by
      obtain ⟨_, ⟨c, hc⟩ | ⟨c, hc⟩⟩ := hS _ h.b3.lt e
      · exact h.b3.ne hc (by decide) rfl
      · exact h.b3.ne hc (by decide) rfl),
   h.b6.kept k (fun e => by
      obtain ⟨_, ⟨c, hc⟩ | ⟨c, hc⟩⟩ := hS _ h.b6.lt e
      · exact h.b6.ne hc (by decide) rfl
      · exact h.b6.ne hc (by decide) rfl), h.num, ⟨h.bd.1, h.bd.2.1, by rw [hq]; exact h.bd.2.2.1, h.bd.2.2.2⟩,
   h.kp.step k (fun b hb e => by have := (hS b (Nat.lt_of_lt_of_le hb h.kp.size) e).1; omega)⟩
theorem set_same21 {xs : List Value} {i : Nat} {a : Value} (h : xs[i]? = some a) : xs.set i a = xs := by
  refine List.ext_getElem? fun q => ?_
  rw [List.getElem?_set]
  by_cases e : i = q
  · subst e
    rw [if_pos rfl, if_pos (List.getElem?_eq_some_iff.1 h).1, h]
  · rw [if_neg e]
theorem lnCs_key {l : List Ln} {i : Nat} {x : Ln} (h : l[i]? = some x) (v : ByteArray) : (lnCs l).set (i * 3) (.string v) = lnCs (l.set i ⟨v, x.lo, x.hi⟩) := by
  obtain ⟨g0, g1, g2⟩ := lnCs_at h
  have := lnCs_set l i ⟨v, x.lo, x.hi⟩ (List.getElem?_eq_some_iff.1 h).1
  dsimp only at this
  rw [set_same21 (xs := (lnCs l).set (i * 3) (.string v)) (by rw [List.getElem?_set, if_neg (by omega)]; exact g1), set_same21 (by rw [List.getElem?_set, if_neg (by omega)]; exact g2)] at this
  exact this
theorem lnCs_lo {l : List Ln} {i : Nat} {x : Ln} (h : l[i]? = some x) (v : Int) : (lnCs l).set (i * 3 + 1) (.int .u64 v) = lnCs (l.set i ⟨x.key, v, x.hi⟩) := by
  obtain ⟨g0, g1, g2⟩ := lnCs_at h
  have := lnCs_set l i ⟨x.key, v, x.hi⟩ (List.getElem?_eq_some_iff.1 h).1
  dsimp only at this
  rw [set_same21 g0, set_same21 (by rw [List.getElem?_set, if_neg (by omega)]; exact g2)] at this
  exact this
theorem lnCs_hi {l : List Ln} {i : Nat} {x : Ln} (h : l[i]? = some x) (v : Int) : (lnCs l).set (i * 3 + 2) (.int .u64 v) = lnCs (l.set i ⟨x.key, x.lo, v⟩) := by
  obtain ⟨g0, g1, g2⟩ := lnCs_at h
  have := lnCs_set l i ⟨x.key, x.lo, v⟩ (List.getElem?_eq_some_iff.1 h).1
  dsimp only at this
  rw [set_same21 g0, set_same21 g1] at this
  exact this
def SpM (w : World) (X3 X6 : Nat) (wx : World) : Prop := ∃ tot un A n cA l R m cR Q, SpE w X3 X6 tot un A n cA l R m cR Q wx
end sp21
open sp21
/-- what spoilt gives -/
def Spoilt21 (w : World) (e : Ending) (w' : World) : Prop :=
  ∃ tot un A n cA l R m cR F, e = .returned (smV tot A n cA un R m cR) ∧ SmIn w' w'.heap.size A n l R m F ∧ (U tot ∧ U un) ∧ Keeps (fun _ => False) w w'
set_option maxRecDepth 1000000 in
set_option maxHeartbeats 4000000 in
theorem spoilt_any21 (w : World) (B : Nat) (tot un : Int) (A R : Option Addr) (n cA m cR : Nat) (l : List Ln) (F : RowsF) (h : SmIn w B A n l R m F) (hB : B ≤ w.heap.size) (ht : U tot) (hu : U un) (hn : n ≤ 1000) (hm : m ≤ 8) (h3 : ∀ j, j < m → (F j).2.1 ≤ 300) (at_ nn : Int) (hnn : U nn) :
    Calls Try.prog 37 #[smV tot A n cA un R m cR, .int .i64 at_, .int .u64 nn] w (Spoilt21 w) := by
  obtain ⟨w2, hw2⟩ : ∃ w2, w2 = (w.alloc (.cells (smC tot A n cA un R m cR) 45)).alloc (.cells (smC 0 none 0 0 0 none 0 0) 45) := ⟨_, rfl⟩
  have k2 : Keeps (fun _ => False) w w2 := by rw [hw2]; exact ((Keeps.refl _ _).alloc _).alloc _
  have b3 : Blk w2 w.heap.size 45 (smC tot A n cA un R m cR) := by rw [hw2]; exact (Blk.new _ _ _).alloc _
  obtain ⟨g6, hg6⟩ : ∃ g6, g6 = w.heap.size + 1 := ⟨_, rfl⟩
  have b6 : Blk w2 g6 45 (smC 0 none 0 0 0 none 0 0) := by rw [hw2, hg6]; exact Blk.new_at _ _ _ _ (by simp)
  have hg36 : w.heap.size < g6 ∧ g6 < w2.heap.size := ⟨by omega, b6.lt⟩
  have HG6 := hide hg6
  have HH := hide (h.kept k2 (fun _ _ h => h))
  have s1 : w2.cell? ⟨w.heap.size, 1, none⟩ = some (.slice A n cA) := b3.cell 1
  have f1 := b3.frozen 1
  have B3 := hide b3
  have B6 := hide b6
  have K2 := hide k2
  have HW2 := hide hw2
  clear hw2 k2 b3 b6 h hg6
  go_enter Try.func37, Try.ntmps37
  go_upto_region 1 with fail
  rw [← HW2.out, ← HG6.out]
  clear HW2 HG6
  generalize hgs : w.heap.size = gs at *
  have hgs2 : gs < w2.heap.size := by omega
  have k1 := (Keeps.refl (fun _ => False) w2).alloc (.cells #[] 99)
  have hmx1 : 0 + n ≤ maxLen := by simp only [maxLen]; omega
  go_upto_region 2 with (at_builtin; refine wpList_app _ elemE rfl (.tmp 12) (.tmp 14) rfl w2.heap.size _ rfl (Own.new0 _ _ 99 3 _ (by simp) (by omega)) _ (m := n) _ rfl (HH.out.ents.kept k1 (fun _ _ h => h)) (lnCs_one l) hmx1 (by omega) (by simp) ?_; intro A7 c7 w7 o7 k7 hA7; rw [Nat.zero_add, List.nil_append] at o7; have O7 := hide o7; have K7 := hide (k1.step k7 (fun k hk h => by have := (inB_some _ _ _).1 h; omega)); have B37 := hide (B3.out.kept K7.out (fun h => h)); have q1 := B37.out.cell 1; have f1 := B37.out.frozen 1; clear o7 k7 hA7)
  trace "R2"
  have kS : Keeps (· = gs) w7 (w7.setCell ⟨gs, 1, none⟩ (.slice A7 n c7)) := Keeps.setCell (S := (· = gs)) (p := ⟨gs, 1, none⟩) (Keeps.refl _ _) (.inl rfl) _
  have B38 : Hid (Blk (w7.setCell ⟨gs, 1, none⟩ (.slice A7 n c7)) gs 45 (smC tot A7 n c7 un R m cR)) := hide (B37.out.set 1 _)
  have B68 := hide ((B6.out.kept K7.out (fun h => h)).kept kS (by omega))
  have O8 := hide (O7.out.kept kS (fun b hb e => by have := (O7.out.inB hb).1; omega))
  have K8 := hide ((K2.out.trans K7.out).step kS (fun b hb e => by omega))
  have HH8 := hide ((HH.out.kept K7.out (fun _ _ h => h)).kept kS (fun b hb e => by omega))
  have hs78 := kS.size
  have hs27 := K7.out.size
  clear kS O7 K7 B37 B3 B6 K2 HH q1 f1 s1 k1
  generalize w7.setCell _ _ = w8 at *
  have s3 : w8.cell? ⟨gs, 3, none⟩ = some (.slice R m cR) := B38.out.cell 3
  go_wp2_with fail
  trace "LOOP"
  refine Code.wp_mono ?_ (sp21.loop w8 B R m cR F HH8.out.rows HH8.out.rrd (by omega) hm h3 _ _ _ _ _ _ _ _ _ _ _ _ _ _ _ _ _ _ _ _ _ _ _ _ _ _ _ _ _ _ _ _ _ _ _ _ _ _ _ _ _ _ _ _ _ _ _ _ _ _ _ _ _ _ _ _ _ _ _ _ _ _ _ _ _ _ _ _ _ _ _ _ _ _ _ _ _ _ _ _ _ _ _ _ _ _ _ _ _ _ _ _ _ _ _ _ _ _ _ _ _ _ _ _ _ _ _ _ _ _ _ _ _ _ _ _ _ _ _ _ _ _ _ _ _ _ _ _ _ _ _ _ _ _ _ _ _ _ _ _ _ _ _ _ _ _ _ _ _ _ _ _ _ _ _ _ _ _ _ _)
  intro e a' w9 hex
  cases e <;> (first | exact hex.elim | skip)
  obtain ⟨rfl, Q, R9, c9, hQ, hRw, k9, ⟨u9, u20, u21, u22, u23, u24, u25, u26, u27, u28, u29, u30, rfl⟩⟩ := hex
  have B39 := hide (B38.out.kept k9 (fun h => h))
  have B69 := hide (B68.out.kept k9 (fun h => h))
  have O9 := hide (O8.out.kept k9 (fun _ _ h => h))
  have K9 := hide (K8.out.trans k9)
  have HRw := hide hRw
  have HQ := hide hQ
  have hs89 := k9.size
  have q3 : w9.cell? ⟨gs, 3, none⟩ = some (.slice R m cR) := B39.out.cell 3
  have f3 := B39.out.frozen 3
  have hX39 := B39.out.lt
  rw [hQ]
  clear hRw k9 B38 B68 O8 K8 s3 hQ
  dsimp only
  go_upto_block 2 with fail
  trace "B2"
  have kS : Keeps (· = gs) w9 (w9.setCell ⟨gs, 3, none⟩ (.slice R9 m c9)) := Keeps.setCell (S := (· = gs)) (p := ⟨gs, 3, none⟩) (Keeps.refl _ _) (.inl rfl) _
  have hX : gs = w.heap.size ∧ gs < g6 := ⟨hgs.symm, hg36.1⟩
  have HX := hide hX
  have HE : Hid (SpE w gs g6 tot un A7 n c7 l R9 m c9 Q (w9.setCell ⟨gs, 3, none⟩ (.slice R9 m c9))) := hide
    ⟨(O9.out.kept kS (fun b hb e => by have := (O9.out.inB hb).1; omega)).base_le (by omega),
     (HRw.out.1.kept kS (fun b hb _ e => by omega)).base_le (by omega),
     B39.out.set 3 _, B69.out.kept kS (by omega), HH8.out.num, ⟨⟨ht, hu⟩, hn, HQ.out, hm⟩, K9.out.step kS (fun b hb e => by omega)⟩
  have H4 := hide HRw.out.2
  clear kS B39 B69 O9 K9 HRw HQ q3 f3 hX39 HH8 hX hg36 hgs2 f1 hs27 hs78 hs89 hgs
  generalize w9.setCell _ _ = wA at *
  obtain ⟨kv, hkv, hk8⟩ := i64_and7t at_
  obtain ⟨iv, hiv, hi8⟩ := i64_and7t (at_ / 8)
  rw [hkv, hiv]
  clear hkv hiv
  go_cut [] from 38 to 162 (SpM w gs g6)
  case first =>
    have hb3 := HE.out.b3
    have c1 : wA.cell? ⟨gs, 1, none⟩ = some (.slice A7 n c7) := hb3.cell 1
    have c3 : wA.cell? ⟨gs, 3, none⟩ = some (.slice R9 m c9) := hb3.cell 3
    have c0 : wA.cell? ⟨gs, 0, none⟩ = some (.int .u64 tot) := hb3.cell 0
    have c2 : wA.cell? ⟨gs, 2, none⟩ = some (.int .u64 un) := hb3.cell 2
    have f0 := hb3.frozen 0
    have f2 := hb3.frozen 2
    have hgl := hb3.lt
    have kX : ∀ i v, Keeps (· = gs) wA (wA.setCell ⟨gs, i, none⟩ v) := fun i v => Keeps.setCell (S := (· = gs)) (p := ⟨gs, i, none⟩) (Keeps.refl _ _) (.inl rfl) _
    have HKX := hide kX
    have HB3 := hide hb3
    have HM0 : Hid (SpM w gs g6 wA) := hide ⟨_, _, _, _, _, _, _, _, _, _, HE.out⟩
    clear kX hb3
    obtain rfl | rfl | rfl | rfl | rfl | rfl | rfl | rfl : kv = 0 ∨ kv = 1 ∨ kv = 2 ∨ kv = 3 ∨ kv = 4 ∨ kv = 5 ∨ kv = 6 ∨ kv = 7 := by omega
    · go_wp2_with fail
      trace "K0"
      go_meet
      exact ⟨_, _, _, _, _, _, _, _, _, _, HE.out.upd HX.out (HKX.out _ _) nn un (HB3.out.set 0 _) ⟨hnn, hu⟩⟩
    · go_wp2_with fail
      trace "K1"
      go_meet
      exact ⟨_, _, _, _, _, _, _, _, _, _, HE.out.upd HX.out (HKX.out _ _) tot nn (HB3.out.set 2 _) ⟨ht, hnn⟩⟩
    · -- a number more in a row
      by_cases hI : iv < m
      · skip
        obtain ⟨gR, rfl, hgR, hgR2⟩ := HE.out.rw.own.some_ (by have := HE.out.bd; omega)
        have hql := HE.out.bd.2.2.1
        obtain ⟨q, hq⟩ : ∃ q, Q[iv]? = some q := ⟨Q[iv]'(by omega), List.getElem?_eq_getElem _⟩
        obtain ⟨Aq, nq, cq, zs⟩ := q
        have hqo := HE.out.rw.rows _ (List.mem_of_getElem? hq)
        have hd : decide (iv < m) = true := by simp; omega
        have hIi : (iv : Int) < (m : Int) := by omega
        have hIo : (0 : Int) ≤ (iv : Int) := by omega
        have cq0 : wA.cell? ⟨gR, iv, none⟩ = some (.slice Aq nq cq) := by rw [HE.out.rw.own.cell iv (by omega), List.getElem?_map, hq]; rfl
        dsimp only at hqo
        have hq400 : nq ≤ 400 := H4.out _ (List.mem_of_getElem? hq)
        clear f0 f2 c0 c1 c2
        go_upto_region 16 with fail
        trace "K2"
        refine wp_region_N 12 (S := fun W => W.cell? ⟨gs, 3, none⟩ = some (.slice (some ⟨gR, 0, none⟩) m c9) ∧ W.cell? ⟨gR, iv, none⟩ = some (.slice Aq nq cq)) (by kernel_rfl) ⟨c3, cq0⟩ (fun hHeld => ?_)
        refine wpAnyN_take (i := 0) (v := ?_) rfl (by kernel_rfl) (by kernel_rfl) (by kernel_rfl) (by kernel_rfl) (by kernel_rfl) (by kernel_rfl) (fun _ _ _ h => h) (Or.inl ⟨by first | kernel_rfl | rfl, ?_⟩) (by assumption) ?_; rotate_left; focus (intro w hSw; (try dsimp only at hSw); go_simp; try (with_reducible rfl)); (try simp only [Act.put, List.getElem_toArray, List.getElem_cons_succ, List.getElem_cons_zero, List.setIfInBounds_toArray, List.set_cons_zero, List.set_cons_succ])
        refine wpAnyN_take (i := 1) (v := ?_) rfl (by kernel_rfl) (by kernel_rfl) (by kernel_rfl) (by kernel_rfl) (by kernel_rfl) (by kernel_rfl) (fun _ _ _ h => h) (Or.inl ⟨by first | kernel_rfl | rfl, ?_⟩) (by assumption) ?_; rotate_left; focus (intro w hSw; (try dsimp only at hSw); go_simp; try (with_reducible rfl)); (try simp only [Act.put, List.getElem_toArray, List.getElem_cons_succ, List.getElem_cons_zero, List.setIfInBounds_toArray, List.set_cons_zero, List.set_cons_succ])
        refine wpAnyN_take (i := 2) (v := ?_) rfl (by kernel_rfl) (by kernel_rfl) (by kernel_rfl) (by kernel_rfl) (by kernel_rfl) (by kernel_rfl) (fun _ _ _ h => h) (Or.inl ⟨by first | kernel_rfl | rfl, ?_⟩) (by assumption) ?_; rotate_left; focus (intro w hSw; (try dsimp only at hSw); go_simp; try (with_reducible rfl)); (try simp only [Act.put, List.getElem_toArray, List.getElem_cons_succ, List.getElem_cons_zero, List.setIfInBounds_toArray, List.set_cons_zero, List.set_cons_succ])
        refine wpAnyN_take (i := 3) (v := ?_) rfl (by kernel_rfl) (by kernel_rfl) (by kernel_rfl) (by kernel_rfl) (by kernel_rfl) (by kernel_rfl) (fun _ _ _ h => h) (Or.inl ⟨by first | kernel_rfl | rfl, ?_⟩) (by assumption) ?_; rotate_left; focus (intro w hSw; (try dsimp only at hSw); go_simp; try (with_reducible rfl)); (try simp only [Act.put, List.getElem_toArray, List.getElem_cons_succ, List.getElem_cons_zero, List.setIfInBounds_toArray, List.set_cons_zero, List.set_cons_succ])
        refine wpAnyN_take (i := 4) (v := ?_) rfl (by kernel_rfl) (by kernel_rfl) (by kernel_rfl) (by kernel_rfl) (by kernel_rfl) (by kernel_rfl) (fun _ _ _ h => h) (Or.inl ⟨by first | kernel_rfl | rfl, ?_⟩) (by assumption) ?_; rotate_left; focus (intro w hSw; (try dsimp only at hSw); go_simp; try (with_reducible rfl)); (try simp only [Act.put, List.getElem_toArray, List.getElem_cons_succ, List.getElem_cons_zero, List.setIfInBounds_toArray, List.set_cons_zero, List.set_cons_succ])
        refine wpAnyN_take (i := 5) (v := ?_) rfl (by kernel_rfl) (by kernel_rfl) (by kernel_rfl) (by kernel_rfl) (by kernel_rfl) (by kernel_rfl) (fun _ _ _ h => h) (Or.inl ⟨by first | kernel_rfl | rfl, ?_⟩) (by assumption) ?_; rotate_left; focus (intro w hSw; (try dsimp only at hSw); go_simp; try (with_reducible rfl)); (try simp only [Act.put, List.getElem_toArray, List.getElem_cons_succ, List.getElem_cons_zero, List.setIfInBounds_toArray, List.set_cons_zero, List.set_cons_succ])
        refine wpAnyN_take (i := 6) (v := ?_) rfl (by kernel_rfl) (by kernel_rfl) (by kernel_rfl) (by kernel_rfl) (by kernel_rfl) (by kernel_rfl) (fun _ _ _ h => h) (Or.inl ⟨by first | kernel_rfl | rfl, ?_⟩) (by assumption) ?_; rotate_left; focus (intro w hSw; (try dsimp only at hSw); go_simp; try (with_reducible rfl)); (try simp only [Act.put, List.getElem_toArray, List.getElem_cons_succ, List.getElem_cons_zero, List.setIfInBounds_toArray, List.set_cons_zero, List.set_cons_succ])
        refine wpAnyN_take (i := 7) (v := ?_) rfl (by kernel_rfl) (by kernel_rfl) (by kernel_rfl) (by kernel_rfl) (by kernel_rfl) (by kernel_rfl) (fun _ _ _ h => h) (Or.inl ⟨by first | kernel_rfl | rfl, ?_⟩) (by assumption) ?_; rotate_left; focus (intro w hSw; (try dsimp only at hSw); go_simp; try (with_reducible rfl)); (try simp only [Act.put, List.getElem_toArray, List.getElem_cons_succ, List.getElem_cons_zero, List.setIfInBounds_toArray, List.set_cons_zero, List.set_cons_succ])
        refine wpAnyN_take (i := 8) (v := ?_) rfl (by kernel_rfl) (by kernel_rfl) (by kernel_rfl) (by kernel_rfl) (by kernel_rfl) (by kernel_rfl) (fun _ _ _ h => h) (Or.inl ⟨by first | kernel_rfl | rfl, ?_⟩) (by assumption) ?_; rotate_left; focus (intro w hSw; (try dsimp only at hSw); go_simp; try (with_reducible rfl)); (try simp only [Act.put, List.getElem_toArray, List.getElem_cons_succ, List.getElem_cons_zero, List.setIfInBounds_toArray, List.set_cons_zero, List.set_cons_succ])
        refine wpAnyN_one (i := 9) (by kernel_rfl) rfl (fun K hK => ?_)
        go_simp
        have k4 : Keeps (fun _ => False) wA (wA.alloc (.cells #[.int .u64 nn] 24)).drew := ((Keeps.refl _ _).alloc _).drew
        have BN : Hid (Blk (wA.alloc (.cells #[.int .u64 nn] 24)).drew wA.heap.size 24 #[.int .u64 nn]) := hide (Blk.new wA 24 #[.int .u64 nn])
        have HE4 := hide (HE.out.quiet k4)
        have K4 := hide k4
        have hsz4 : wA.heap.size ≤ (wA.alloc (.cells #[.int .u64 nn] 24)).drew.heap.size := k4.size
        have hwa : w.heap.size ≤ wA.heap.size := HE.out.kp.size
        generalize (wA.alloc _).drew = w4 at *
        refine hK.out _ _ ⟨K4.out.cell_some c3 (fun h => h), K4.out.cell_some cq0 (fun h => h)⟩ (fun _ => ?_)
        clear hK K
        try simp only [Act.put, List.setIfInBounds_toArray, List.set_cons_zero, List.set_cons_succ]
        have oq4 := hqo.1.kept K4.out (fun _ _ h => h)
        refine wpAnyN_one (i := 10) (by kernel_rfl) rfl (fun K hK => ?_)
        refine step_app _ elemU (by rfl) (.tmp 65) (.tmp 67) (by rfl) w.heap.size (A := Aq) (n := nq) (c := cq) (zs.map (.int .u64)) (by simp [Act.eval, Act.put]) oq4 _ (A2 := some ⟨wA.heap.size, 0, none⟩) (m := 1) (c2 := 1) [.int .u64 nn] (by simp [Act.eval, Act.put]) (BN.out.rd (xs := [.int .u64 nn]) (n := 1) (sz := 1) rfl) (by simp [Value.oneCell']) (by simp only [maxLen]; omega) (by omega) (by omega) ?_
        intro A8 c8 w8 o8 k8 hA8
        have hgsn : ¬ inB Aq gs := fun h => oq4.ne_blk HE4.out.b3 (by decide) h rfl
        have hgRn : ¬ inB Aq gR := fun h => oq4.ne HE4.out.rw.own (by decide) h ((inB_some _ _ _).2 rfl)
        have d3 := k8.cell_some (K4.out.cell_some c3 (fun h => h)) hgsn
        have dq := k8.cell_some (K4.out.cell_some cq0 (fun h => h)) hgRn
        refine hK.out _ _ ⟨d3, dq⟩ (fun _ => ?_)
        clear hK K
        try simp only [Act.put, List.setIfInBounds_toArray, List.set_cons_zero, List.set_cons_succ]
        refine wpAnyN_take (i := 11) (v := ?_) rfl (by kernel_rfl) (by kernel_rfl) (by kernel_rfl) (by kernel_rfl) (by kernel_rfl) (by kernel_rfl) (fun _ _ _ h => h) (Or.inl ⟨by first | kernel_rfl | rfl, ?_⟩) (by assumption) ?_; rotate_left; focus (intro w hSw; (try dsimp only at hSw); go_simp; try (with_reducible rfl)); (try simp only [Act.put, List.getElem_toArray, List.getElem_cons_succ, List.getElem_cons_zero, List.setIfInBounds_toArray, List.set_cons_zero, List.set_cons_succ])
        have hset := HE4.out.rw.set hq (A8, nq + 1, c8, zs ++ [nn]) k8 (by have := o8; rwa [show zs.map (Value.int .u64) ++ [Value.int .u64 nn] = (zs ++ [nn]).map (Value.int .u64) from by simp] at this) hA8 (fun z hz => by
          rcases List.mem_append.1 hz with h | h
          · exact hqo.2 z h
          · obtain rfl : z = nn := by simpa using h
            exact hnn)
        obtain ⟨s1, s2, s3⟩ := hset
        have df := s1.frozen iv
        have S1 := hide s1
        have S2 := hide s2
        have S3 := hide s3
        have K8 := hide k8
        clear s1 s2 s3 k8 o8
        refine wpAnyN_last (by kernel_rfl) rfl (fun K hK => ?_)
        go_simp
        refine hK.out _ _ ?_
        clear hK K hHeld
        try simp only [Act.put, List.setIfInBounds_toArray, List.set_cons_zero, List.set_cons_succ]
        refine wpAnyN_done (by kernel_rfl) ?_ _
        try simp only [Act.put, List.setIfInBounds_toArray, List.set_cons_zero, List.set_cons_succ]
        go_wp2_with fail
        trace "K2b"
        go_meet
        have kS : Keeps (· = gR) w8 (w8.setCell ⟨gR, iv, none⟩ (.slice A8 (nq + 1) c8)) := Keeps.setCell (S := (· = gR)) (p := ⟨gR, iv, none⟩) (Keeps.refl _ _) (.inl rfl) _
        have kT : Keeps (fun b => inB Aq b ∨ b = gR) w4 (w8.setCell ⟨gR, iv, none⟩ (.slice A8 (nq + 1) c8)) := ((Keeps.refl (fun b => inB Aq b ∨ b = gR) w4).step K8.out (fun _ _ h => Or.inl h)).step kS (fun _ _ h => Or.inr h)
        obtain ⟨cR0, hcR0⟩ := HE4.out.rw.own.blk ((inB_some gR 0 gR).2 rfl)
        have hrw : RwS (w8.setCell ⟨gR, iv, none⟩ (.slice A8 (nq + 1) c8)) w.heap.size (some ⟨gR, 0, none⟩) c9 (Q.set iv (A8, nq + 1, c8, zs ++ [nn])) := by
          refine ⟨?_, fun x hx => ⟨(S2.out x hx).1.kept kS (fun b hb e => (S2.out x hx).1.ne S1.out (by decide) hb (by subst e; exact (inB_some _ _ _).2 rfl)), (S2.out x hx).2⟩, S3.out⟩
          have := S1.out.store iv (rwV (A8, nq + 1, c8, zs ++ [nn]))
          rw [← List.map_set] at this
          rw [List.length_set]
          exact this
        exact ⟨_, _, _, _, _, _, _, _, _, _, HE4.out.rws kT (fun b hb e => by
          rcases e with e | e
          · obtain ⟨cb, hcb⟩ := oq4.blk e
            exact ⟨(oq4.inB e).1, .inl ⟨cb, hcb⟩⟩
          · subst e; exact ⟨hgR, .inr ⟨cR0, hcR0⟩⟩) _ (by simp) hrw⟩
      · have hd : decide (iv < m) = false := by simp; omega
        go_wp2_with fail
        go_meet
        exact HM0.out
    · -- the first number of a row
      by_cases hI : iv < m
      · skip
        obtain ⟨gR, rfl, hgR, hgR2⟩ := HE.out.rw.own.some_ (by have := HE.out.bd; omega)
        have hql := HE.out.bd.2.2.1
        obtain ⟨q, hq⟩ : ∃ q, Q[iv]? = some q := ⟨Q[iv]'(by omega), List.getElem?_eq_getElem _⟩
        obtain ⟨Aq, nq, cq, zs⟩ := q
        have hqo := HE.out.rw.rows _ (List.mem_of_getElem? hq)
        have hd : decide (iv < m) = true := by simp; omega
        have hIi : (iv : Int) < (m : Int) := by omega
        have hIo : (0 : Int) ≤ (iv : Int) := by omega
        have cq0 : wA.cell? ⟨gR, iv, none⟩ = some (.slice Aq nq cq) := by rw [HE.out.rw.own.cell iv (by omega), List.getElem?_map, hq]; rfl
        dsimp only at hqo
        by_cases hz : 0 < nq
        · have hzd : decide (0 < nq) = true := by simp; omega
          obtain ⟨bq, rfl, hbq, hbq2⟩ := hqo.1.some_ hz
          obtain ⟨z0, zt, rfl⟩ : ∃ z0 zt, zs = z0 :: zt := by
            have hl := hqo.1.len
            cases zs with
            | nil => simp at hl; omega
            | cons z0 zt => exact ⟨z0, zt, rfl⟩
          have p0 : wA.cell? ⟨bq, 0, none⟩ = some (.int .u64 z0) := by rw [hqo.1.cell 0 (by omega)]; rfl
          have pf := hqo.1.frozen 0
          have hz0 : (0 : Int) < (nq : Int) := by omega
          clear f0 f2 c0 c1 c2
          go_wp2_with fail
          trace "K3"
          go_meet
          have kS : Keeps (· = bq) wA (wA.setCell ⟨bq, 0, none⟩ (.int .u64 nn)) := Keeps.setCell (S := (· = bq)) (p := ⟨bq, 0, none⟩) (Keeps.refl _ _) (.inl rfl) _
          have kI : Keeps (inB (some ⟨bq, 0, none⟩)) wA (wA.setCell ⟨bq, 0, none⟩ (.int .u64 nn)) := (Keeps.refl _ wA).step kS (fun b _ e => (inB_some _ _ _).2 e.symm)
          have hU2 := hqo.2
          obtain ⟨s1, s2, s3⟩ := HE.out.rw.set hq (some ⟨bq, 0, none⟩, nq, cq, nn :: zt) kI (hqo.1.store 0 (.int .u64 nn)) (fun k hk => .inl hk) (fun z hz => by
            rcases List.mem_cons.1 hz with rfl | h
            · exact hnn
            · exact hU2 z (by simp [h]))
          obtain ⟨cb, hcb⟩ := hqo.1.blk ((inB_some bq 0 bq).2 rfl)
          refine ⟨_, _, _, _, _, _, _, _, _, _, HE.out.rws kS (fun b _ e => by subst e; exact ⟨hbq, .inl ⟨cb, hcb⟩⟩) (Q.set iv (some ⟨bq, 0, none⟩, nq, cq, nn :: zt)) (by simp) ⟨?_, s2, s3⟩⟩
          rw [List.length_set, show (Q.set iv (some ⟨bq, 0, none⟩, nq, cq, nn :: zt)).map rwV = Q.map rwV from ?_]
          · exact s1
          · rw [List.map_set]
            exact set_same21 (by rw [List.getElem?_map, hq]; rfl)
        · have hz0 : nq = 0 := by omega
          subst hz0
          clear f0 f2 c0 c1 c2
          go_wp2_with fail
          go_meet
          exact HM0.out
      · have hd : decide (iv < m) = false := by simp; omega
        go_wp2_with fail
        go_meet
        exact HM0.out
    · skip
      by_cases hI : iv < n
      · skip
        obtain ⟨gA, rfl, hgA, hgA2⟩ := HE.out.ow.some_ (by omega)
        have hln : l.length = n := by have := HE.out.ow.len; rw [lnCs_len] at this; omega
        obtain ⟨x, hx⟩ : ∃ x, l[iv]? = some x := ⟨l[iv]'(by omega), List.getElem?_eq_getElem _⟩
        obtain ⟨g0, g1, g2⟩ := lnCs_at hx
        have hxn := HE.out.num x (List.mem_of_getElem? hx)
        have hce : ∀ j, j < n * 3 → ∀ v, (lnCs l)[j]? = some v → wA.cell? ⟨gA, j, none⟩ = some v := fun j hj v hv => by rw [HE.out.ow.cell j hj]; exact hv
        have hfe := fun j => HE.out.ow.frozen j
        have hd : decide (iv < n) = true := by simp; omega
        have hIi : (iv : Int) < (n : Int) := by omega
        have hIo : (0 : Int) ≤ (iv : Int) := by omega
        have pt := hce (iv * 3 + 1) (by omega) (.int .u64 x.lo) (by first | exact g0 | exact g1 | exact g2)
        have pf := hfe (iv * 3 + 1)
        try simp only [Nat.add_zero] at pt pf
        clear f0 f2 c0 c2 c3
        go_wp2_with fail
        trace "K4"
        go_meet
        have kS : Keeps (· = gA) wA (wA.setCell ⟨gA, iv * 3 + 1, none⟩ (.int .u64 nn)) := Keeps.setCell (S := (· = gA)) (p := ⟨gA, iv * 3 + 1, none⟩) (Keeps.refl _ _) (.inl rfl) _
        have hN : ∀ z ∈ l.set iv ⟨x.key, nn, x.hi⟩, U z.lo ∧ U z.hi ∧ z.key.size ≤ 140737488351232 := by
          intro z hz
          rcases List.mem_or_eq_of_mem_set hz with h | h
          · exact HE.out.num z h
          · subst h; exact ⟨hnn, hxn.2.1, hxn.2.2⟩
        exact ⟨_, _, _, _, _, _, _, _, _, _, HE.out.ent (by omega) kS (l.set iv ⟨x.key, nn, x.hi⟩) (by rw [← lnCs_lo hx nn]; exact HE.out.ow.store _ _) hN⟩
      · skip
        have hd : decide (iv < n) = false := by simp; omega
        go_wp2_with fail
        go_meet
        exact HM0.out
    · skip
      by_cases hI : iv < n
      · skip
        obtain ⟨gA, rfl, hgA, hgA2⟩ := HE.out.ow.some_ (by omega)
        have hln : l.length = n := by have := HE.out.ow.len; rw [lnCs_len] at this; omega
        obtain ⟨x, hx⟩ : ∃ x, l[iv]? = some x := ⟨l[iv]'(by omega), List.getElem?_eq_getElem _⟩
        obtain ⟨g0, g1, g2⟩ := lnCs_at hx
        have hxn := HE.out.num x (List.mem_of_getElem? hx)
        have hce : ∀ j, j < n * 3 → ∀ v, (lnCs l)[j]? = some v → wA.cell? ⟨gA, j, none⟩ = some v := fun j hj v hv => by rw [HE.out.ow.cell j hj]; exact hv
        have hfe := fun j => HE.out.ow.frozen j
        have hd : decide (iv < n) = true := by simp; omega
        have hIi : (iv : Int) < (n : Int) := by omega
        have hIo : (0 : Int) ≤ (iv : Int) := by omega
        have pt := hce (iv * 3 + 2) (by omega) (.int .u64 x.hi) (by first | exact g0 | exact g1 | exact g2)
        have pf := hfe (iv * 3 + 2)
        try simp only [Nat.add_zero] at pt pf
        clear f0 f2 c0 c2 c3
        go_wp2_with fail
        trace "K5"
        go_meet
        have kS : Keeps (· = gA) wA (wA.setCell ⟨gA, iv * 3 + 2, none⟩ (.int .u64 nn)) := Keeps.setCell (S := (· = gA)) (p := ⟨gA, iv * 3 + 2, none⟩) (Keeps.refl _ _) (.inl rfl) _
        have hN : ∀ z ∈ l.set iv ⟨x.key, x.lo, nn⟩, U z.lo ∧ U z.hi ∧ z.key.size ≤ 140737488351232 := by
          intro z hz
          rcases List.mem_or_eq_of_mem_set hz with h | h
          · exact HE.out.num z h
          · subst h; exact ⟨hxn.1, hnn, hxn.2.2⟩
        exact ⟨_, _, _, _, _, _, _, _, _, _, HE.out.ent (by omega) kS (l.set iv ⟨x.key, x.lo, nn⟩) (by rw [← lnCs_hi hx nn]; exact HE.out.ow.store _ _) hN⟩
      · skip
        have hd : decide (iv < n) = false := by simp; omega
        go_wp2_with fail
        go_meet
        exact HM0.out
    · by_cases hI : iv < n
      · skip
        obtain ⟨gA, rfl, hgA, hgA2⟩ := HE.out.ow.some_ (by omega)
        have hln : l.length = n := by have := HE.out.ow.len; rw [lnCs_len] at this; omega
        obtain ⟨x, hx⟩ : ∃ x, l[iv]? = some x := ⟨l[iv]'(by omega), List.getElem?_eq_getElem _⟩
        obtain ⟨g0, g1, g2⟩ := lnCs_at hx
        have hxn := HE.out.num x (List.mem_of_getElem? hx)
        have hce : ∀ j, j < n * 3 → ∀ v, (lnCs l)[j]? = some v → wA.cell? ⟨gA, j, none⟩ = some v := fun j hj v hv => by rw [HE.out.ow.cell j hj]; exact hv
        have hfe := fun j => HE.out.ow.frozen j
        have hd : decide (iv < n) = true := by simp; omega
        have hIi : (iv : Int) < (n : Int) := by omega
        have hIo : (0 : Int) ≤ (iv : Int) := by omega
        obtain ⟨y, hy⟩ : ∃ y, l[0]? = some y := ⟨l[0]'(by omega), List.getElem?_eq_getElem _⟩
        have p0 : wA.cell? ⟨gA, 0, none⟩ = some (.string y.key) := by have := hce 0 (by omega) _ (lnCs_at hy).1; simpa using this
        have pt := hce (iv * 3) (by omega) _ g0
        have pf := hfe (iv * 3)
        have hyk := (HE.out.num y (List.mem_of_getElem? hy)).2.2
        clear f0 f2 c0 c2 c3
        go_upto_region 24 with fail
        trace "K6"
        go_region
        go_wp2_with fail
        trace "K6b"
        go_meet
        have kS : Keeps (· = gA) wA (wA.setCell ⟨gA, iv * 3, none⟩ (.string y.key)) := Keeps.setCell (S := (· = gA)) (p := ⟨gA, iv * 3, none⟩) (Keeps.refl _ _) (.inl rfl) _
        have hN : ∀ z ∈ l.set iv ⟨y.key, x.lo, x.hi⟩, U z.lo ∧ U z.hi ∧ z.key.size ≤ 140737488351232 := by
          intro z hz
          rcases List.mem_or_eq_of_mem_set hz with h | h
          · exact HE.out.num z h
          · subst h; exact ⟨hxn.1, hxn.2.1, hyk⟩
        have hS := HE.out.ent (by omega) kS (l.set iv ⟨y.key, x.lo, x.hi⟩) (by rw [← lnCs_key hx y.key]; exact HE.out.ow.store _ _) hN
        first
          | exact ⟨_, _, _, _, _, _, _, _, _, _, hS⟩
          | exact ⟨_, _, _, _, _, _, _, _, _, _, hS.quiet ((Keeps.refl _ _).drew)⟩
      · skip
        have hd : decide (iv < n) = false := by simp; omega
        go_wp2_with fail
        go_meet
        exact HM0.out
    · skip
      by_cases hI : iv < n
      · skip
        obtain ⟨gA, rfl, hgA, hgA2⟩ := HE.out.ow.some_ (by omega)
        have hln : l.length = n := by have := HE.out.ow.len; rw [lnCs_len] at this; omega
        obtain ⟨x, hx⟩ : ∃ x, l[iv]? = some x := ⟨l[iv]'(by omega), List.getElem?_eq_getElem _⟩
        obtain ⟨g0, g1, g2⟩ := lnCs_at hx
        have hxn := HE.out.num x (List.mem_of_getElem? hx)
        have hce : ∀ j, j < n * 3 → ∀ v, (lnCs l)[j]? = some v → wA.cell? ⟨gA, j, none⟩ = some v := fun j hj v hv => by rw [HE.out.ow.cell j hj]; exact hv
        have hfe := fun j => HE.out.ow.frozen j
        have hd : decide (iv < n) = true := by simp; omega
        have hIi : (iv : Int) < (n : Int) := by omega
        have hIo : (0 : Int) ≤ (iv : Int) := by omega
        have pt := hce (iv * 3 + 0) (by omega) (.string x.key) (by first | exact g0 | exact g1 | exact g2)
        have pf := hfe (iv * 3 + 0)
        try simp only [Nat.add_zero] at pt pf
        clear f0 f2 c0 c2 c3
        go_wp2_with fail
        trace "K7"
        go_meet
        have kS : Keeps (· = gA) wA (wA.setCell ⟨gA, iv * 3 + 0, none⟩ (.string ⟨#[]⟩)) := Keeps.setCell (S := (· = gA)) (p := ⟨gA, iv * 3 + 0, none⟩) (Keeps.refl _ _) (.inl rfl) _
        have hN : ∀ z ∈ l.set iv ⟨⟨#[]⟩, x.lo, x.hi⟩, U z.lo ∧ U z.hi ∧ z.key.size ≤ 140737488351232 := by
          intro z hz
          rcases List.mem_or_eq_of_mem_set hz with h | h
          · exact HE.out.num z h
          · subst h; exact ⟨hxn.1, hxn.2.1, show (ByteArray.mk #[]).size ≤ 140737488351232 by decide⟩
        exact ⟨_, _, _, _, _, _, _, _, _, _, HE.out.ent (by omega) kS (l.set iv ⟨⟨#[]⟩, x.lo, x.hi⟩) (by rw [← lnCs_key hx ⟨#[]⟩]; exact HE.out.ow.store _ _) hN⟩
      · skip
        have hd : decide (iv < n) = false := by simp; omega
        go_wp2_with fail
        go_meet
        exact HM0.out
  case rest =>
  obtain ⟨tot', un', A', n', cA', l', R', m', cR', Q', hE⟩ := hcut
  have HE := hide hE
  have q0 : wc.cell? ⟨gs, 0, none⟩ = some (.int .u64 tot') := hE.b3.cell 0
  have q1 : wc.cell? ⟨gs, 1, none⟩ = some (.slice A' n' cA') := hE.b3.cell 1
  have q2 : wc.cell? ⟨gs, 2, none⟩ = some (.int .u64 un') := hE.b3.cell 2
  have q3 : wc.cell? ⟨gs, 3, none⟩ = some (.slice R' m' cR') := hE.b3.cell 3
  have z0 := hE.b6.cell 0
  have z1 := hE.b6.cell 1
  have z2 := hE.b6.cell 2
  have z3 := hE.b6.cell 3
  have f0 := hE.b6.frozen 0
  have f1 := hE.b6.frozen 1
  have f2 := hE.b6.frozen 2
  have f3 := hE.b6.frozen 3
  clear hE H4
  go_wp2_with fail
  trace "FIN"
  have bS := (((HE.out.b6.set 0 (.int .u64 tot')).set 1 (.slice A' n' cA')).set 2 (.int .u64 un')).set 3 (.slice R' m' cR')
  have kS : Keeps (· = g6) wc ((((wc.setCell ⟨g6, 0, none⟩ (.int .u64 tot')).setCell ⟨g6, 1, none⟩ (.slice A' n' cA')).setCell ⟨g6, 2, none⟩ (.int .u64 un')).setCell ⟨g6, 3, none⟩ (.slice R' m' cR')) := Keeps.setCell (S := (· = g6)) (p := ⟨g6, 3, none⟩) (Keeps.setCell (S := (· = g6)) (p := ⟨g6, 2, none⟩) (Keeps.setCell (S := (· = g6)) (p := ⟨g6, 1, none⟩) (Keeps.setCell (S := (· = g6)) (p := ⟨g6, 0, none⟩) (Keeps.refl _ _) (.inl rfl) _) (.inl rfl) _) (.inl rfl) _) (.inl rfl) _
  have r0 := bS.cell 0
  have r1 := bS.cell 1
  have r2 := bS.cell 2
  have r3 := bS.cell 3
  have oE := HE.out.ow.kept kS (fun b hb e => HE.out.ow.ne_blk HE.out.b6 (by decide) hb e)
  have rE := HE.out.rw.kept kS (fun b _ _ e => by subst e; exact ⟨fun c hc => hc.ne HE.out.b6 (by decide) rfl, fun c hc => hc.ne HE.out.b6 (by decide) rfl⟩)
  have kE : Keeps (fun _ => False) w _ := HE.out.kp.step kS (fun b hb e => by have := HX.out; omega)
  clear z0 z1 z2 z3 f0 f1 f2 f3 q0 q1 q2 q3
  generalize (((wc.setCell _ _).setCell _ _).setCell _ _).setCell _ _ = wz at *
  refine bodyPost_ret (v := smV tot' A' n' cA' un' R' m' cR') (by simp [results, Try.results37, go_sem, r0, r1, r2, r3]) rfl ?_
  have hln : l'.length = n' := by have := oE.len; rw [lnCs_len] at this; omega
  refine ⟨tot', un', A', n', cA', l', R', m', cR', fun j => Q'.getD j (none, 0, 0, []), rfl, ⟨hln, oE.rd (by omega), ?_, fun j hj => ?_, HE.out.num, by have := HE.out.bd; omega, by have := HE.out.bd; omega⟩, HE.out.bd.1, kE⟩
  · have hq := HE.out.bd.2.2.1
    have := rE.own.rd (by omega)
    rw [hq] at this
    rw [show (List.range m').map (fun j => Value.slice (Q'.getD j (none, 0, 0, [])).1 (Q'.getD j (none, 0, 0, [])).2.1 (Q'.getD j (none, 0, 0, [])).2.2.1) = Q'.map rwV from ?_]
    · exact this
    · rw [← hq]
      refine List.ext_getElem? fun i => ?_
      by_cases h : i < Q'.length
      · simp [rwV, h, List.getD]
      · simp [h]
  · have hq := HE.out.bd.2.2.1
    have hm2 : Q'.getD j (none, 0, 0, []) ∈ Q' := by rw [List.getD, List.getElem?_eq_getElem (by omega)]; exact List.getElem_mem _
    obtain ⟨q1, q2⟩ := rE.rows _ hm2
    have hf := q1.form
    refine ⟨q1.rd (by omega), fun z hz => ?_, q1.le, ?_⟩
    · obtain ⟨z0, z1⟩ := q2 z hz
      have h1 : IntKind.u64.min = 0 := rfl
      have h2 : IntKind.u64.max = 18446744073709551615 := rfl
      simp only [Lit.wf, Bool.and_eq_true, decide_eq_true_eq]
      omega
    · rcases hf with ⟨_, _, h⟩ | ⟨_, _, _, _, _, h⟩
      · simp only [maxLen]; omega
      · exact h
end Go.Proofs.Ytaiopdipldaimaa
