
/-
  The reference's arena: its cells set one by one; Free, Read, Write. No conditions beyond those of the statement.
-/
import Derived.Test.YtidobhflijdccaaJe
import Derived.Deep.RegionLaw
set_option linter.unusedVariables false
set_option linter.unusedSimpArgs false
namespace Go.Proofs.Ytidobhflijdccaa
open Go.RowKit Cfp
section
variable {w w0 : World} {G : Nat → Prop} {b : Nat} {ρ : RA} {LA SA FA : Option Addr} {lc sc fc q : Nat}
theorem RAm.setSlot {gs j k : Nat} {x y : RSl} {v : Value} (h : RAm w G b ρ LA lc (some ⟨gs, 0, none⟩) sc FA fc q) (hx : ρ.slots[j]? = some x) (hk : k < 5) (hy : rslC y = (rslC x).set k v) (hD : Own w 0 5 1 y.D y.b.length y.dc (y.b.map by8)) (hgd : ∀ k, inB y.D k → ¬ G k) :
    RAm (w.setCell ⟨gs, j * 5 + k, none⟩ v) G b { ρ with slots := ρ.slots.set j y } LA lc (some ⟨gs, 0, none⟩) sc FA fc q := by
  have kk := keepsOne w gs (j * 5 + k) v
  obtain ⟨cs, hb⟩ := h.sl.blk (b := gs) ((inB_some _ _ _).2 rfl)
  have hm : ∀ z ∈ ρ.slots.set j y, (Own w 0 5 1 z.D z.b.length z.dc (z.b.map by8)) ∧ ∀ k, inB z.D k → ¬ G k := fun z hz => by
    rcases List.mem_or_eq_of_mem_set hz with hz | rfl
    · exact ⟨h.da z hz, h.gd z hz⟩
    · exact ⟨hD, hgd⟩
  have hs := h.sl.store (j * 5 + k) v
  rw [rslCs_set hx hk hy] at hs
  refine ⟨?_, h.ls.kept kk (fun p hp e => h.ls.ne_blk hb (by decide) hp e), ?_, h.fr.kept kk (fun p hp e => h.fr.ne_blk hb (by decide) hp e), h.nx.kept kk (fun e => h.nx.ne hb (by decide) e), fun z hz => (hm z hz).1.kept kk (fun p hp e => (hm z hz).1.ne_blk hb (by decide) hp e), h.fq, h.gb, h.gq, h.gs, h.gf, h.gl, fun z hz => (hm z hz).2⟩
  · have := h.blk.kept kk (fun e => h.blk.ne hb (by decide) e)
    simp only [List.length_set]
    exact this
  · simp only [List.length_set]
    exact hs
theorem RAm.newFree (h : RAm w0 G b ρ LA lc SA sc FA fc q) (k : Keeps (inB FA) w0 w) {A' : Option Addr} {c' : Nat} (l' : List Nat) (ho : Own w 0 3 1 A' l'.length c' (intCs l')) (hq : ¬ inB A' q) (hg : ∀ k, inB A' k → ¬ G k) :
    RAm (w.setCell ⟨b, 2, none⟩ (.slice A' l'.length c')) G b { ρ with free := l' } LA lc SA sc A' c' q := by
  have b1 := h.blk.kept k (fun e => h.fr.ne_blk h.blk (by decide) e rfl)
  have l1 := h.ls.kept k (fun p hp e => h.ls.ne h.fr (by decide) hp e)
  have s1 := h.sl.kept k (fun p hp e => h.sl.ne h.fr (by decide) hp e)
  have n1 := h.nx.kept k h.fq
  have d1 : ∀ x ∈ ρ.slots, Own w 0 5 1 x.D x.b.length x.dc (x.b.map by8) := fun x hx => (h.da x hx).kept k (fun p hp e => (h.da x hx).ne h.fr (by decide) hp e)
  have kk := keepsOne w b 2 (.slice A' l'.length c')
  exact ⟨b1.set 2 _, l1.kept kk (fun p hp e => l1.ne_blk b1 (by decide) hp e), s1.kept kk (fun p hp e => s1.ne_blk b1 (by decide) hp e), ho.kept kk (fun p hp e => ho.ne_blk b1 (by decide) hp e), n1.kept kk (fun e => n1.ne b1 (by decide) e), fun x hx => (d1 x hx).kept kk (fun p hp e => (d1 x hx).ne_blk b1 (by decide) hp e), hq, h.gb, h.gq, h.gs, hg, h.gl, h.gd⟩
theorem RAm.newSlots (h : RAm w0 G b ρ LA lc SA sc FA fc q) (k : Keeps (inB SA) w0 w) {A' : Option Addr} {c' : Nat} (l' : List RSl) (ho : Own w 0 139 5 A' l'.length c' (rslCs l')) (hd : ∀ x ∈ l', x ∈ ρ.slots ∨ x.D = none ∧ x.b = [] ∧ x.dc = 0) (hg : ∀ k, inB A' k → ¬ G k) :
    RAm (w.setCell ⟨b, 1, none⟩ (.slice A' l'.length c')) G b { ρ with slots := l' } LA lc A' c' FA fc q := by
  have b1 := h.blk.kept k (fun e => h.sl.ne_blk h.blk (by decide) e rfl)
  have l1 := h.ls.kept k (fun p hp e => h.ls.ne h.sl (by decide) hp e)
  have f1 := h.fr.kept k (fun p hp e => h.fr.ne h.sl (by decide) hp e)
  have n1 := h.nx.kept k (fun e => h.sl.ne_blk h.nx (by decide) e rfl)
  have d1 : ∀ x ∈ l', Own w 0 5 1 x.D x.b.length x.dc (x.b.map by8) := fun x hx => by
    rcases hd x hx with hx | ⟨e1, e2, e3⟩
    · exact (h.da x hx).kept k (fun p hp e => (h.da x hx).ne h.sl (by decide) hp e)
    · rw [e1, e2, e3]; exact Own.nil _ _ _ _
  have kk := keepsOne w b 1 (.slice A' l'.length c')
  exact ⟨b1.set 1 _, l1.kept kk (fun p hp e => l1.ne_blk b1 (by decide) hp e), ho.kept kk (fun p hp e => ho.ne_blk b1 (by decide) hp e), f1.kept kk (fun p hp e => f1.ne_blk b1 (by decide) hp e), n1.kept kk (fun e => n1.ne b1 (by decide) e), fun x hx => (d1 x hx).kept kk (fun p hp e => (d1 x hx).ne_blk b1 (by decide) hp e), h.fq, h.gb, h.gq, hg, h.gf, h.gl, fun x hx => by
    rcases hd x hx with hx | ⟨e1, e2, e3⟩
    · exact h.gd x hx
    · rw [e1]; exact fun k hk => absurd hk (inB_none k)⟩
theorem RAm.setNext (h : RAm w G b ρ LA lc SA sc FA fc q) (i n : Nat) : RAm (w.setCell ⟨q, i, none⟩ (.int .i64 (n : Int))) G b { ρ with next := ρ.next.set i n } LA lc SA sc FA fc q := by
  have kk := keepsOne w q i (.int .i64 (n : Int))
  refine ⟨?_, h.ls.kept kk (fun p hp e => h.ls.ne_blk h.nx (by decide) hp e), h.sl.kept kk (fun p hp e => h.sl.ne_blk h.nx (by decide) hp e), h.fr.kept kk (fun p hp e => h.fq (e ▸ hp)), ?_, fun x hx => (h.da x hx).kept kk (fun p hp e => (h.da x hx).ne_blk h.nx (by decide) hp e), h.fq, h.gb, h.gq, h.gs, h.gf, h.gl, h.gd⟩
  · have := h.blk.kept kk (fun e => h.bq e)
    simp only [List.length_set]
    exact this
  · have := h.nx.set i (.int .i64 (n : Int))
    have e : (intCs (ρ.next.set i n)).toArray = (intCs ρ.next).toArray.setIfInBounds i (.int .i64 (n : Int)) := by
      unfold intCs
      rw [List.map_set]
      simp
    rw [e]
    exact this
end
/-- what a live handle's slot is -/
theorem rfind_at {ρ : RA} {hc hk ha : Int} {j : Nat} {x : RSl} (hj : rfindN ρ hc hk ha = j) (hx : ρ.slots[j]? = some x) : x.used = true ∧ (x.c : Int) = hc ∧ (x.k : Int) = hk ∧ x.age = ha := by
  have hl := (List.getElem?_eq_some_iff.1 hx)
  have := List.findIdx_getElem (p := RSl.is hc hk ha) (xs := ρ.slots) (w := by unfold rfindN at hj; rw [hj]; exact hl.1)
  unfold rfindN at hj
  simp only [hj] at this
  rw [hl.2] at this
  exact RSl.is_iff.1 this
theorem rfree_no (w : World) (G : Nat → Prop) (b : Nat) (ρ : RA) (LA : Option Addr) (lc : Nat) (SA : Option Addr) (sc : Nat) (FA : Option Addr) (fc q : Nat) (hc hk ha : Int) (h : RAm w G b ρ LA lc SA sc FA fc q) (hm : ρ.slots.length ≤ 1000000) (hj : rfindN ρ hc hk ha = ρ.slots.length) (hf : 0 ≤ ρ.faults ∧ ρ.faults < 4611686018427387904) :
    Calls Try.prog 30 #[.pointer (some ⟨b, 0, none⟩), .agg #[.int .i64 hc, .int .i64 hk, .int .i64 ha]] w fun e w' => e = .returned (.int .i64 9) ∧ RAm w' G b { ρ with faults := ρ.faults + 1 } LA lc SA sc FA fc q ∧ Keeps (RS G w) w w' := by
  obtain ⟨w1, hw1⟩ : ∃ w1, w1 = w.alloc (.cells #[.int .i64 hc, .int .i64 hk, .int .i64 ha] 40) := ⟨_, rfl⟩
  obtain ⟨gh, hgh⟩ : ∃ gh, gh = w.heap.size := ⟨_, rfl⟩
  have k1 : Keeps (fun _ => False) w w1 := by rw [hw1]; exact (Keeps.refl _ _).alloc _
  have hb1 : Blk w1 gh 40 #[.int .i64 hc, .int .i64 hk, .int .i64 ha] := by rw [hw1, hgh]; exact Blk.new _ _ _
  obtain ⟨⟨q0, q1, q2⟩, _, hql⟩ := hb1.three
  have H1 := hide (h.quiet k1)
  have HB1 := hide hb1
  have HG := hide hgh
  have HW := hide hw1
  have K1 := hide k1
  have HJ := hide hj
  clear h hw1 hgh k1 hb1 hj
  go_enter Try.func30, Try.ntmps30
  go_upto_region 1 with fail
  rw [← HG.out, ← HW.out]
  go_wp2_with fail
  refine (rfind_no w1 G b ρ LA lc SA sc FA fc q hc hk ha H1.out hm HJ.out hf).mono ?_
  rintro e w2 ⟨rfl, h2, k2⟩
  have H2 := hide h2
  have K2 := hide (RS.quiet K1.out k2)
  clear h2 k2
  go_wp2_with fail
  go_ret
  exact ⟨rfl, H2.out, K2.out⟩
theorem rread_no (w : World) (G : Nat → Prop) (b : Nat) (ρ : RA) (LA : Option Addr) (lc : Nat) (SA : Option Addr) (sc : Nat) (FA : Option Addr) (fc q : Nat) (hc hk ha : Int) (h : RAm w G b ρ LA lc SA sc FA fc q) (hm : ρ.slots.length ≤ 1000000) (hj : rfindN ρ hc hk ha = ρ.slots.length) (hf : 0 ≤ ρ.faults ∧ ρ.faults < 4611686018427387904) :
    Calls Try.prog 34 #[.pointer (some ⟨b, 0, none⟩), .agg #[.int .i64 hc, .int .i64 hk, .int .i64 ha]] w fun e w' => e = .returned (.tuple #[.slice none 0 0, .int .i64 9]) ∧ RAm w' G b { ρ with faults := ρ.faults + 1 } LA lc SA sc FA fc q ∧ Keeps (RS G w) w w' := by
  obtain ⟨w1, hw1⟩ : ∃ w1, w1 = w.alloc (.cells #[.int .i64 hc, .int .i64 hk, .int .i64 ha] 40) := ⟨_, rfl⟩
  obtain ⟨gh, hgh⟩ : ∃ gh, gh = w.heap.size := ⟨_, rfl⟩
  have k1 : Keeps (fun _ => False) w w1 := by rw [hw1]; exact (Keeps.refl _ _).alloc _
  have hb1 : Blk w1 gh 40 #[.int .i64 hc, .int .i64 hk, .int .i64 ha] := by rw [hw1, hgh]; exact Blk.new _ _ _
  obtain ⟨⟨q0, q1, q2⟩, _, hql⟩ := hb1.three
  have H1 := hide (h.quiet k1)
  have HB1 := hide hb1
  have HG := hide hgh
  have HW := hide hw1
  have K1 := hide k1
  have HJ := hide hj
  clear h hw1 hgh k1 hb1 hj
  go_enter Try.func34, Try.ntmps34
  go_upto_region 1 with fail
  rw [← HG.out, ← HW.out]
  go_wp2_with fail
  refine (rfind_no w1 G b ρ LA lc SA sc FA fc q hc hk ha H1.out hm HJ.out hf).mono ?_
  rintro e w2 ⟨rfl, h2, k2⟩
  have H2 := hide h2
  have K2 := hide (RS.quiet K1.out k2)
  clear h2 k2
  go_wp2_with fail
  go_ret2
  exact ⟨rfl, H2.out, K2.out⟩
theorem rwrite_no (w : World) (G : Nat → Prop) (b : Nat) (ρ : RA) (LA : Option Addr) (lc : Nat) (SA : Option Addr) (sc : Nat) (FA : Option Addr) (fc q : Nat) (hc hk ha : Int) (D : Option Addr) (n m : Nat) (h : RAm w G b ρ LA lc SA sc FA fc q) (hm : ρ.slots.length ≤ 1000000) (hj : rfindN ρ hc hk ha = ρ.slots.length) (hf : 0 ≤ ρ.faults ∧ ρ.faults < 4611686018427387904) :
    Calls Try.prog 32 #[.pointer (some ⟨b, 0, none⟩), .agg #[.int .i64 hc, .int .i64 hk, .int .i64 ha], .slice D n m] w fun e w' => e = .returned (.int .i64 9) ∧ RAm w' G b { ρ with faults := ρ.faults + 1 } LA lc SA sc FA fc q ∧ Keeps (RS G w) w w' := by
  obtain ⟨w1, hw1⟩ : ∃ w1, w1 = w.alloc (.cells #[.int .i64 hc, .int .i64 hk, .int .i64 ha] 40) := ⟨_, rfl⟩
  obtain ⟨gh, hgh⟩ : ∃ gh, gh = w.heap.size := ⟨_, rfl⟩
  have k1 : Keeps (fun _ => False) w w1 := by rw [hw1]; exact (Keeps.refl _ _).alloc _
  have hb1 : Blk w1 gh 40 #[.int .i64 hc, .int .i64 hk, .int .i64 ha] := by rw [hw1, hgh]; exact Blk.new _ _ _
  obtain ⟨⟨q0, q1, q2⟩, _, hql⟩ := hb1.three
  have H1 := hide (h.quiet k1)
  have HB1 := hide hb1
  have HG := hide hgh
  have HW := hide hw1
  have K1 := hide k1
  have HJ := hide hj
  clear h hw1 hgh k1 hb1 hj
  go_enter Try.func32, Try.ntmps32
  go_upto_region 1 with fail
  rw [← HG.out, ← HW.out]
  go_wp2_with fail
  refine (rfind_no w1 G b ρ LA lc SA sc FA fc q hc hk ha H1.out hm HJ.out hf).mono ?_
  rintro e w2 ⟨rfl, h2, k2⟩
  have H2 := hide h2
  have K2 := hide (RS.quiet K1.out k2)
  clear h2 k2
  go_wp2_with fail
  go_ret
  exact ⟨rfl, H2.out, K2.out⟩
theorem rread_yes (w : World) (G : Nat → Prop) (b : Nat) (ρ : RA) (LA : Option Addr) (lc : Nat) (SA : Option Addr) (sc : Nat) (FA : Option Addr) (fc q : Nat) (hc hk ha : Int) (j : Nat) (x : RSl) (h : RAm w G b ρ LA lc SA sc FA fc q) (hm : ρ.slots.length ≤ 1000000) (hj : rfindN ρ hc hk ha = j) (hx : ρ.slots[j]? = some x) (hd : x.b.length ≤ 65536) :
    Calls Try.prog 34 #[.pointer (some ⟨b, 0, none⟩), .agg #[.int .i64 hc, .int .i64 hk, .int .i64 ha]] w fun e w' => (∃ D m, e = .returned (.tuple #[.slice D x.b.length m, .int .i64 0]) ∧ Own w' w.heap.size 5 1 D x.b.length m (x.b.map by8)) ∧ Keeps (fun _ => False) w w' := by
  obtain ⟨w1, hw1⟩ : ∃ w1, w1 = w.alloc (.cells #[.int .i64 hc, .int .i64 hk, .int .i64 ha] 40) := ⟨_, rfl⟩
  obtain ⟨gh, hgh⟩ : ∃ gh, gh = w.heap.size := ⟨_, rfl⟩
  have k1 : Keeps (fun _ => False) w w1 := by rw [hw1]; exact (Keeps.refl _ _).alloc _
  have hb1 : Blk w1 gh 40 #[.int .i64 hc, .int .i64 hk, .int .i64 ha] := by rw [hw1, hgh]; exact Blk.new _ _ _
  obtain ⟨⟨q0, q1, q2⟩, _, hql⟩ := hb1.three
  have H1 := hide (h.quiet k1)
  have HB1 := hide hb1
  have HG := hide hgh
  have HW := hide hw1
  have K1 := hide k1
  have HJ := hide hj
  have HX := hide hx
  obtain ⟨m, hmm⟩ : ∃ m, m = ρ.slots.length := ⟨_, rfl⟩
  have hjm : j < m := by rw [hmm]; exact (List.getElem?_eq_some_iff.1 hx).1
  have hs0 := H1.out.sl
  rw [← hmm] at hs0
  obtain ⟨gs, rfl, _⟩ := Own.some_ hs0 (by omega)
  obtain ⟨n, hn⟩ : ∃ n, n = x.b.length := ⟨_, rfl⟩
  rw [← hn] at hd ⊢
  have HN := hide hn
  have HM := hide hmm
  have hgw : w.heap.size ≤ w1.heap.size := k1.size
  clear h hw1 hgh k1 hb1 hj hx hs0 hn hmm
  go_enter Try.func34, Try.ntmps34
  go_upto_region 1 with fail
  rw [← HG.out, ← HW.out]
  go_wp2_with fail
  refine (rfind_yes w1 G b ρ LA lc _ sc FA fc q hc hk ha j x H1.out hm HJ.out HX.out).mono ?_
  rintro e w2 ⟨rfl, k2⟩
  have h2 := H1.out.quiet k2
  have d1 := h2.blk.cell 1
  rw [← HM.out] at d1
  have hbl := h2.blk.lt
  have hgsl := (h2.sl.inB ((inB_some _ _ _).2 rfl)).2
  obtain ⟨c0, c1, c2, c3, c4⟩ := rsl_at h2.sl HX.out
  rw [← HN.out] at c4
  have hjI : (j : Int) < (m : Int) := by omega
  have hj0 : (0 : Int) ≤ (j : Int) := by omega
  have hdo := h2.da x (List.mem_of_getElem? HX.out)
  rw [← HN.out] at hdo
  have RD := hide (hdo.rd (by omega))
  have K2 := hide (K1.out.trans k2)
  have hz2 := k2.size
  clear h2 k2 hdo q0 q1 q2 hql c0 c1 c2 c3
  go_wp2_with (at_builtin; refine wpList_app _ elem8 rfl (.tmp 12) (.tmp 20) rfl w2.heap.size _ rfl (Own.new0 _ _ 5 1 _ (by simp) (by omega)) _ (m := n) _ rfl (RD.out.kept ((Keeps.refl (fun _ => False) w2).alloc _) (fun _ _ h => h)) (by8_one _) (by simp only [maxLen]; omega) (by omega) (by simp) ?_; intro A7 c7 w7 o7 k7 hA7; rw [Nat.zero_add, List.nil_append] at o7; have O7 := hide o7; have K7 := hide (((Keeps.refl (fun _ => False) w2).alloc (.cells #[] 5)).step k7 (fun p hp h => by have := (inB_some _ _ _).1 h; omega)); clear o7 k7 hA7)
  go_ret2
  exact ⟨⟨A7, c7, rfl, O7.out.base_le (by omega)⟩, K2.out.trans K7.out⟩
set_option maxRecDepth 100000 in
set_option maxHeartbeats 1000000 in
theorem rfree_yes (w : World) (G : Nat → Prop) (b : Nat) (ρ : RA) (LA : Option Addr) (lc : Nat) (SA : Option Addr) (sc : Nat) (FA : Option Addr) (fc q : Nat) (hc hk ha : Int) (j : Nat) (x : RSl) (h : RAm w G b ρ LA lc SA sc FA fc q) (hm : ρ.slots.length ≤ 1000000) (hfm : ρ.free.length ≤ 1000000) (hG : ∀ k, G k → k < w.heap.size) (hj : rfindN ρ hc hk ha = j) (hx : ρ.slots[j]? = some x) :
    Calls Try.prog 30 #[.pointer (some ⟨b, 0, none⟩), .agg #[.int .i64 hc, .int .i64 hk, .int .i64 ha]] w fun e w' => e = .returned (.int .i64 0) ∧ IsRA w' G b { ρ with slots := ρ.slots.set j { x with used := false }, free := ρ.free ++ [j] } ∧ Keeps (RS G w) w w' := by
  obtain ⟨w1, hw1⟩ : ∃ w1, w1 = w.alloc (.cells #[.int .i64 hc, .int .i64 hk, .int .i64 ha] 40) := ⟨_, rfl⟩
  obtain ⟨gh, hgh⟩ : ∃ gh, gh = w.heap.size := ⟨_, rfl⟩
  have k1 : Keeps (fun _ => False) w w1 := by rw [hw1]; exact (Keeps.refl _ _).alloc _
  have hb1 : Blk w1 gh 40 #[.int .i64 hc, .int .i64 hk, .int .i64 ha] := by rw [hw1, hgh]; exact Blk.new _ _ _
  obtain ⟨⟨q0, q1, q2⟩, _, hql⟩ := hb1.three
  have H1 := hide (h.quiet k1)
  have HB1 := hide hb1
  have HG := hide hgh
  have HW := hide hw1
  have K1 := hide k1
  have HJ := hide hj
  have HX := hide hx
  have HGG := hide hG
  obtain ⟨m, hmm⟩ : ∃ m, m = ρ.slots.length := ⟨_, rfl⟩
  have hjm : j < m := by rw [hmm]; exact (List.getElem?_eq_some_iff.1 hx).1
  have hs0 := H1.out.sl
  rw [← hmm] at hs0
  obtain ⟨gs, rfl, _⟩ := Own.some_ hs0 (by omega)
  obtain ⟨f, hff⟩ : ∃ f, f = ρ.free.length := ⟨_, rfl⟩
  rw [← hff] at hfm
  have HF := hide hff
  have HM := hide hmm
  have hgw : w.heap.size ≤ w1.heap.size := k1.size
  clear h hw1 hgh k1 hb1 hj hx hs0 hff hmm hG
  go_enter Try.func30, Try.ntmps30
  go_upto_region 1 with fail
  rw [← HG.out, ← HW.out]
  go_wp2_with fail
  refine (rfind_yes w1 G b ρ LA lc _ sc FA fc q hc hk ha j x H1.out hm HJ.out HX.out).mono ?_
  rintro e w2 ⟨rfl, k2⟩
  have h2 := H1.out.quiet k2
  have d1 := h2.blk.cell 1
  rw [← HM.out] at d1
  have hbl := h2.blk.lt
  have hgsl := (h2.sl.inB ((inB_some _ _ _).2 rfl)).2
  obtain ⟨c0, c1, c2, c3, c4⟩ := rsl_at h2.sl HX.out
  have f3 := h2.sl.frozen (j * 5 + 3)
  have hjI : (j : Int) < (m : Int) := by omega
  have hj0 : (0 : Int) ≤ (j : Int) := by omega
  have h3 := h2.setSlot (y := { x with used := false }) (v := .bool false) (k := 3) HX.out (by omega) rfl (h2.da x (List.mem_of_getElem? HX.out)) (h2.gd x (List.mem_of_getElem? HX.out))
  have k3 : Keeps (RS G w2) w2 (w2.setCell ⟨gs, j * 5 + 3, none⟩ (.bool false)) := (keepsOne w2 gs (j * 5 + 3) (.bool false)).weak (fun p hp e => e ▸ RS.slots h2 ((inB_some _ _ _).2 rfl))
  have HK3 := hide (RS.quiet (K1.out.trans k2) k3)
  have hz2 := k2.size
  obtain ⟨w3, hw3⟩ : ∃ w3, w3 = w2.setCell ⟨gs, j * 5 + 3, none⟩ (.bool false) := ⟨_, rfl⟩
  rw [← hw3] at h3 HK3
  have hz3 : w3.heap.size = w2.heap.size := by rw [hw3]; simp
  have e2 := h3.blk.cell 2
  have g2 := h3.blk.frozen 2
  have hbl3 := h3.blk.lt
  rw [← HF.out] at e2
  have H3 := hide h3
  have HW3 := hide hw3
  have HFo := hide h3.fr
  have hz3' : w1.heap.size ≤ w3.heap.size := by omega
  clear h2 k2 k3 h3 hw3 hz3 q0 q1 q2 hql c0 c1 c2 c4
  go_upto_region 5 with fail
  rw [← HW3.out]
  clear c3 f3 hbl d1
  rw [← HF.out] at HFo
  go_wp2_with (at_builtin; refine wpList_app _ elemInt rfl (.tmp 22) (.tmp 24) rfl 0 _ rfl (HFo.out.kept ((Keeps.refl (fun _ => False) w3).alloc _) (fun _ _ h => h)) _ (m := 1) [.int .i64 (j : Int)] rfl (by exact Blk.rd (xs := [.int .i64 (j : Int)]) (Blk.new_at _ _ _ _ (by simp)) rfl) (by simp [Value.oneCell']) (by simp only [maxLen]; omega) (by omega) (by omega) ?_; intro A7 c7 w7 o7 k7 hA7; have O7 := hide o7; have K7 := hide (((Keeps.refl (inB FA) w3).alloc (.cells #[.int .i64 (j : Int)] 3)).trans k7); have b7 := H3.out.blk.kept K7.out (fun e => H3.out.fr.ne_blk H3.out.blk (by decide) e rfl); have e72 := b7.cell 2; have g72 := b7.frozen 2; have hbl7 := b7.lt; have HA7 := hide hA7; clear o7 k7 hA7 b7)
  go_ret
  have hl : (ρ.free ++ [j]).length = f + 1 := by rw [List.length_append, ← HF.out]; rfl
  have hfo : Own w7 0 3 1 A7 (ρ.free ++ [j]).length c7 (intCs (ρ.free ++ [j])) := by
    rw [hl]
    have := O7.out
    rw [show intCs (ρ.free ++ [j]) = intCs ρ.free ++ [.int .i64 (j : Int)] from by unfold intCs; rw [List.map_append]; rfl]
    exact this
  have hz7 := K7.out.size
  have hnew := H3.out.newFree K7.out (ρ.free ++ [j]) hfo (fun e => by
    rcases HA7.out q e with h | h
    · exact H3.out.fq h
    · have := H3.out.nx.lt; simp at h; omega) (fun p hp e => by
    rcases HA7.out p hp with h | h
    · exact H3.out.gf p h e
    · have := HGG.out p e; simp at h; omega)
  rw [hl] at hnew
  refine ⟨rfl, ⟨LA, lc, _, sc, A7, c7, q, hnew⟩, RS.trans HK3.out ((K7.out.weak (fun p hp e => RS.free H3.out e)).step (keepsOne w7 b 2 _) (fun p hp e => e ▸ RS.arena H3.out))⟩
end Go.Proofs.Ytidobhflijdccaa
