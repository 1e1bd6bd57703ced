/-
  queue.Push. No conditions beyond those of the statement.
-/
import Derived.Test.YtidobhflijdccaaQb
import Derived.Deep.RegionHeld3
set_option linter.unusedVariables false
set_option linter.unusedSimpArgs false
namespace Go.Proofs.Ytidobhflijdccaa
open Go.RowKit Cfp
/-- why there is no slot for a size, by the classes and what is in use -/
def NoSlotL (sh : List (Int × Int)) (lv : List Int) (size c : Int) : Prop := (c = 1 ∧ (size < 1 ∨ ∀ x ∈ sh, x.1 < size)) ∨ (c = 7 ∧ ∃ (i : Nat) (x : Int × Int), sh[i]? = some x ∧ fitS sh size = i ∧ lv.getD i 0 = x.2)
/-- why a push is refused -/
def PushNo (n : Nat) (nk : Int) (sh : List (Int × Int)) (W : List Wt) (lv : List Int) (key : List UInt8) (c : Int) : Prop :=
  (W.length = n ∧ c = 7) ∨ (W.length < n ∧ key = [] ∧ c = 3) ∨ (W.length < n ∧ 255 < key.length ∧ c = 4) ∨
    (W.length < n ∧ 1 ≤ key.length ∧ key.length ≤ 255 ∧ (NoSlotL sh lv 24 c ∨ (nk ≤ W.length ∧ c = 7) ∨ ∃ lv1 : List Int, (∀ j, lv1.getD j 0 = lv.getD j 0 + if j = fitS sh 24 then 1 else 0) ∧ NoSlotL sh lv1 key.length c))
theorem noslot_L {s : Ar} {size c : Int} (h : NoSlot s size c) : NoSlotL (shapeA s) (livesA s) size c := by
  rcases h with ⟨h1, h2⟩ | ⟨h1, i, d, hd, hf, hl⟩
  · refine .inl ⟨h1, h2.imp id fun h3 x hx => ?_⟩
    obtain ⟨d, hd, rfl⟩ := List.mem_map.1 hx
    obtain ⟨i, hi⟩ := List.getElem?_of_mem hd
    exact h3 i d hi
  · refine .inr ⟨h1, i, (d.size, d.count), by simp [shapeA, hd], by rw [← fitS_K]; exact hf, ?_⟩
    simp [livesA, List.getD, hd, hl]
/-- what Intern does inside Push: z is the slot's handle -/
inductive Int12 (w : World) (B p a mb : Nat) (nk : Int) (sh : List (Int × Int)) (W : List Wt) (E : List PE) (EA : Option Addr) (cap : Nat) (D : KD) (s s1 : Ar) (L1 : Nat → List Nat) (M M2 : Int) (z : Hd) (key : List UInt8) (win time wgt : Int) (e : Ending) (w' : World) : Prop
  | no (c : Int) (he : e = .returned (.tuple #[.int .i64 0, .int .i64 c])) (h0 : c ≠ 0) (hc : (nk ≤ W.length ∧ c = 7) ∨ ∃ lv1 : List Int, (∀ j, lv1.getD j 0 = (livesA s).getD j 0 + if j = fitS sh 24 then 1 else 0) ∧ NoSlotL sh lv1 key.length c)
      (h : IsPo w' B p a nk E EA cap mb D) (hA : IsAr w' B a s1) (k : Keeps (fun _ => False) w w')
  | ok (id : Nat) (E' : List PE) (EA' : Option Addr) (cap' : Nat) (D' : KD) (s' : Ar) (L' : Nat → List Nat) (he : e = .returned (.tuple #[.int .i64 id, .int .i64 0])) (hi : QInv sh (W ++ [⟨win, time, wgt, z, id, key⟩]) E' s' L' D' (M + 1) (M2 + 1))
      (h : IsPo w' B p a nk E' EA' cap' mb D') (hA : IsAr w' B a s') (hn : (cntU E' : Int) ≤ nk) (k : Keeps (PoS B w) w w')
theorem Qu.more {w : World} {B q a p mb G n : Nat} {nk : Int} {sh : List (Int × Int)} {W R : List Wt} {E : List PE} {EA : Option Addr} {cap : Nat} {D : KD} {s : Ar} {L : Nat → List Nat} {M M' M2 M2' : Int} (h : Qu w B q a p mb G n nk sh W R E EA cap D s L M M2) (h1 : M ≤ M') (h2 : M2 ≤ M2') : Qu w B q a p mb G n nk sh W R E EA cap D s L M' M2' :=
  ⟨h.qu, h.po, h.ar, ⟨h.iv.iv.more h2, h.iv.pv.more h1, h.iv.hsh, h.iv.hs, h.iv.nd, h.iv.us, h.iv.tx, h.iv.fq, h.iv.fe, h.iv.lv, h.iv.su, h.iv.fa⟩, h.hB, h.kn, h.n64⟩
/-- what Push does -/
inductive Pushes (w : World) (B q a p mb G n : Nat) (nk : Int) (sh : List (Int × Int)) (W : List Wt) (lv : List Int) (M M2 : Int) (key : List UInt8) (win time wgt : Int) (e : Ending) (w' : World) : Prop
  | no (c : Int) (R : List Wt) (E : List PE) (EA : Option Addr) (cap : Nat) (D : KD) (s : Ar) (L : Nat → List Nat) (he : e = .returned (.int .i64 c)) (h : Qu w' B q a p mb G n nk sh W R E EA cap D s L (M + 1) (M2 + 2)) (hlv : livesA s = lv) (hc : PushNo n nk sh W lv key c) (k : Keeps (QuS B w) w w')
  | ok (hd : Hd) (id : Nat) (R : List Wt) (E : List PE) (EA : Option Addr) (cap : Nat) (D : KD) (s : Ar) (L : Nat → List Nat) (he : e = .returned (.int .i64 0)) (hl : W.length < n) (hk : 1 ≤ key.length ∧ key.length ≤ 255) (h : Qu w' B q a p mb G n nk sh (W ++ [⟨win, time, wgt, hd, id, key⟩]) R E EA cap D s L (M + 1) (M2 + 2)) (k : Keeps (QuS B w) w w')
theorem push_nil (w : World) (win : Int) (t : ByteArray) (time wgt : Int) : Calls Try.prog 57 #[.pointer none, .int .i64 win, .agg #[.string t, .int .i64 time, .int .u64 wgt]] w fun e w' => e = .returned (.int .i64 8) ∧ Keeps (fun _ => False) w w' := by
  go_enter Try.func57, Try.ntmps57
  go_wp2_with fail
  go_ret
  exact ⟨rfl, (Keeps.refl _ _).alloc _⟩
set_option maxRecDepth 100000 in
theorem push_full (w : World) (B q a p mb G n : Nat) (nk : Int) (sh : List (Int × Int)) (W R : List Wt) (E : List PE) (EA : Option Addr) (cap : Nat) (D : KD) (s : Ar) (L : Nat → List Nat) (M M2 : Int) (t : ByteArray) (win time wgt : Int)
    (h : Qu w B q a p mb G n nk sh W R E EA cap D s L M M2) (hl : W.length = n) :
    Calls Try.prog 57 #[.pointer (some ⟨q, 0, none⟩), .int .i64 win, .agg #[.string t, .int .i64 time, .int .u64 wgt]] w fun e w' => e = .returned (.int .i64 7) ∧ Keeps (fun _ => False) w w' := by
  have kb := (Keeps.refl (fun _ => False) w).alloc (.cells #[.string t, .int .i64 time, .int .u64 wgt] 92)
  have HX := hide (Blk.new w 92 #[.string t, .int .i64 time, .int .u64 wgt])
  have H1 := hide (h.quiet kb)
  have K1 := hide kb
  obtain ⟨m, hm⟩ : ∃ m, m = W.length := ⟨_, rfl⟩
  have HM := hide hm
  have hmn : m ≤ n := by have := h.len; omega
  have hn64 := h.n64
  clear h kb hm
  go_enter Try.func57, Try.ntmps57
  go_upto_region 3 with fail
  trace "R3"
  generalize w.alloc _ = w1 at *
  generalize w.heap.size = X at *
  obtain ⟨⟨x0, x1, x2⟩, _, hX⟩ := HX.out.three
  obtain ⟨⟨p0, p1, p2, p3⟩, hpw⟩ := H1.out.qu.cells
  rw [← HM.out] at p3
  have hmq : ((m : Int) == (n : Int)) = true := by have := HM.out; simp; omega
  go_quiet (fail)
  go_wp2_with fail
  go_ret
  exact ⟨rfl, K1.out.drewN _⟩
set_option maxRecDepth 100000 in
theorem push_key (w : World) (B q a p mb G n : Nat) (nk : Int) (sh : List (Int × Int)) (W R : List Wt) (E : List PE) (EA : Option Addr) (cap : Nat) (D : KD) (s : Ar) (L : Nat → List Nat) (M M2 : Int) (t : ByteArray) (win time wgt : Int)
    (h : Qu w B q a p mb G n nk sh W R E EA cap D s L M M2) (hl : W.length < n) (ht : t.size ≤ 9223372036854775807) (hk : t.size = 0 ∨ 255 < t.size) :
    Calls Try.prog 57 #[.pointer (some ⟨q, 0, none⟩), .int .i64 win, .agg #[.string t, .int .i64 time, .int .u64 wgt]] w fun e w' => e = .returned (.int .i64 (if t.size = 0 then 3 else 4)) ∧ Keeps (fun _ => False) w w' := by
  have hlen : t.data.toList.length = t.size := by rw [Array.length_toList]; rfl
  by_cases h0 : t.size = 0
  · rw [if_pos h0]
    have hne : t.toList.isEmpty = true := by rw [ByteArray.toList_eq, show t.data.toList = [] from List.eq_nil_of_length_eq_zero (by omega)]; rfl
    clear hk h0 hlen
    have kb := (Keeps.refl (fun _ => False) w).alloc (.cells #[.string t, .int .i64 time, .int .u64 wgt] 92)
    have HX := hide (Blk.new w 92 #[.string t, .int .i64 time, .int .u64 wgt])
    have H1 := hide (h.quiet kb)
    have K1 := hide kb
    obtain ⟨m, hm⟩ : ∃ m, m = W.length := ⟨_, rfl⟩
    have HM := hide hm
    have hmn : m ≤ n := by have := h.len; omega
    have hn64 := h.n64
    clear h kb hm
    go_enter Try.func57, Try.ntmps57
    go_upto_region 3 with fail
    trace "R3"
    generalize w.alloc _ = w1 at *
    generalize w.heap.size = X at *
    obtain ⟨⟨x0, x1, x2⟩, _, hX⟩ := HX.out.three
    obtain ⟨⟨p0, p1, p2, p3⟩, hpw⟩ := H1.out.qu.cells
    rw [← HM.out] at p3
    have hmq : ((m : Int) == (n : Int)) = false := by have := HM.out; simp; omega
    go_quiet (fail)
    go_wp2_with fail
    go_ret
    exact ⟨rfl, K1.out.drewN _⟩
  · rw [if_neg h0]
    have hne : t.toList.isEmpty = false := by
      rw [ByteArray.toList_eq]
      rcases hx : t.data.toList with _ | _
      · rw [hx] at hlen; simp at hlen; omega
      · rfl
    have e1 : decide ((255 : Int) < (t.size : Int)) = true := by simp; omega
    clear hk h0 hlen
    have kb := (Keeps.refl (fun _ => False) w).alloc (.cells #[.string t, .int .i64 time, .int .u64 wgt] 92)
    have HX := hide (Blk.new w 92 #[.string t, .int .i64 time, .int .u64 wgt])
    have H1 := hide (h.quiet kb)
    have K1 := hide kb
    obtain ⟨m, hm⟩ : ∃ m, m = W.length := ⟨_, rfl⟩
    have HM := hide hm
    have hmn : m ≤ n := by have := h.len; omega
    have hn64 := h.n64
    clear h kb hm
    go_enter Try.func57, Try.ntmps57
    go_upto_region 3 with fail
    trace "R3"
    generalize w.alloc _ = w1 at *
    generalize w.heap.size = X at *
    obtain ⟨⟨x0, x1, x2⟩, _, hX⟩ := HX.out.three
    obtain ⟨⟨p0, p1, p2, p3⟩, hpw⟩ := H1.out.qu.cells
    rw [← HM.out] at p3
    have hmq : ((m : Int) == (n : Int)) = false := by have := HM.out; simp; omega
    go_quiet (fail)
    go_wp2_with fail
    go_ret
    exact ⟨rfl, K1.out.drewN _⟩
set_option maxRecDepth 100000 in
set_option maxHeartbeats 3000000 in
theorem push_main (w : World) (B q a p mb G n : Nat) (nk : Int) (sh : List (Int × Int)) (W R : List Wt) (E : List PE) (EA : Option Addr) (cap : Nat) (D : KD) (s : Ar) (L : Nat → List Nat) (M M2 : Int) (t : ByteArray) (win time wgt : Int)
    (h : Qu w B q a p mb G n nk sh W R E EA cap D s L M M2) (hl : W.length < n) (hM : M ≤ 900000) (hM2 : 0 ≤ M2 ∧ M2 < 900000000) (h1 : 1 ≤ t.size) (h2 : t.size ≤ 255) :
    Calls Try.prog 57 #[.pointer (some ⟨q, 0, none⟩), .int .i64 win, .agg #[.string t, .int .i64 time, .int .u64 wgt]] w (Pushes w B q a p mb G n nk sh W (livesA s) M M2 t.data.toList win time wgt) := by
  have hlen : t.data.toList.length = t.size := by rw [Array.length_toList]; rfl
  have hne : t.toList.isEmpty = false := by
    rw [ByteArray.toList_eq]
    rcases hx : t.data.toList with _ | _
    · rw [hx] at hlen; simp at hlen; omega
    · rfl
  have e1 : decide ((255 : Int) < (t.size : Int)) = false := by simp; omega
  have HLen := hide hlen
  clear hlen
  have kb := (Keeps.refl (fun _ => False) w).alloc (.cells #[.string t, .int .i64 time, .int .u64 wgt] 92)
  have HX := hide (Blk.new w 92 #[.string t, .int .i64 time, .int .u64 wgt])
  have H1 := hide (h.quiet kb)
  have K1 := hide kb
  obtain ⟨m, hm⟩ : ∃ m, m = W.length := ⟨_, rfl⟩
  have HM := hide hm
  have hmn : m ≤ n := by have := h.len; omega
  have hn64 := h.n64
  clear h kb hm
  go_enter Try.func57, Try.ntmps57
  go_upto_region 3 with fail
  trace "R3"
  generalize w.alloc _ = w1 at *
  generalize w.heap.size = X at *
  obtain ⟨⟨x0, x1, x2⟩, _, hX⟩ := HX.out.three
  obtain ⟨⟨p0, p1, p2, p3⟩, hpw⟩ := H1.out.qu.cells
  rw [← HM.out] at p3
  have hmlt : m < n := by have := HM.out; omega
  have hmq : ((m : Int) == (n : Int)) = false := by simp; omega
  clear hl
  go_quiet (fail)
  go_upto_region 9 with fail
  trace "R9"
  have kq := (Keeps.refl (fun _ => False) w1).drewN nq
  have HX2 := hide (HX.out.kept kq (fun h => h))
  have H2 := hide (H1.out.quiet kq)
  have K2 := hide (K1.out.trans kq)
  have hB1 := H1.out.hB
  clear kq
  generalize w1.drewN nq = w2 at *
  clear HX H1 K1 p0 p1 p2 p3 x0 x1 x2 hX hpw
  obtain ⟨⟨x0, x1, x2⟩, _, hX⟩ := HX2.out.three
  obtain ⟨⟨p0, p1, p2, p3⟩, hpw⟩ := H2.out.qu.cells
  rw [← HM.out] at p3
  have hB2 := H2.out.hB
  go_wp2_with fail
  trace "ALLOC"
  refine (alloc_any B a s L M2 24 _ H2.out.ar H2.out.iv.iv (by omega) hB2).mono ?_
  rintro e w3 hal
  rcases hal with ⟨rfl, h3, k3, hr⟩ | ⟨rfl, h3, k3, hr⟩ | ⟨i, k, age, s1, L1, rfl, h3, v3, g3, hage, k3, hfit⟩
  · have kb := (Keeps.refl (fun _ => False) w3).alloc (.cells #[.int .i64 0, .int .i64 0, .int .i64 0] 40)
    have H3 := hide ((H2.out.quiet k3).quiet kb)
    have K3 := hide ((K2.out.trans k3).trans kb)
    have HR : Hid (NoSlot s 24 1) := hide (.inl ⟨rfl, hr⟩)
    clear h3 k3 kb hr H2 p0 p1 p2 p3 x0 x1 x2
    go_wp2_with fail
    trace "NO1"
    go_ret
    exact .no 1 R E EA cap D s L rfl (H3.out.more (by omega) (by omega)) rfl (.inr (.inr (.inr ⟨by have := HM.out; omega, by have := HLen.out; omega, by have := HLen.out; omega, .inl (by have := noslot_L HR.out; rw [H3.out.iv.hsh] at this; exact this)⟩))) (QuS.zero K3.out)
  · have kb := (Keeps.refl (fun _ => False) w3).alloc (.cells #[.int .i64 0, .int .i64 0, .int .i64 0] 40)
    have H3 := hide ((H2.out.quiet k3).quiet kb)
    have K3 := hide ((K2.out.trans k3).trans kb)
    have HR : Hid (NoSlot s 24 7) := hide (.inr ⟨rfl, hr⟩)
    clear h3 k3 kb hr H2 p0 p1 p2 p3 x0 x1 x2
    go_wp2_with fail
    trace "NO7"
    go_ret
    exact .no 7 R E EA cap D s L rfl (H3.out.more (by omega) (by omega)) rfl (.inr (.inr (.inr ⟨by have := HM.out; omega, by have := HLen.out; omega, by have := HLen.out; omega, .inl (by have := noslot_L HR.out; rw [H3.out.iv.hsh] at this; exact this)⟩))) (QuS.zero K3.out)
  · have HY4 := hide (Blk.new w3 40 #[.int .i64 i, .int .i64 k, .int .i64 age])
    have kb := (Keeps.refl (fun _ => False) w3).alloc (.cells #[.int .i64 i, .int .i64 k, .int .i64 age] 40)
    have HQ4 := hide ((H2.out.qu.ar k3).quiet kb)
    have HP4 := hide ((H2.out.po.ar k3).quiet kb)
    have HA4 := hide (h3.quiet kb)
    have HX4 := hide ((HX2.out.kept k3 (ArS.not HX2.out (by decide) (by decide) (by decide))).kept kb (fun h => h))
    have K4 := hide (QuS.trans (QuS.zero K2.out) (QuS.trans (QuS.po (PoS.ar k3)) (QuS.zero kb)) : Keeps (QuS B w) w _)
    have hB4 := Nat.le_trans hB2 (Nat.le_trans k3.size kb.size)
    have HV3 := hide v3
    have HG := hide g3
    have HFit := hide hfit
    have HPv := hide (H2.out.iv.slot g3)
    have HIv := hide H2.out.iv
    have hkn := hide H2.out.kn
    clear h3 k3 kb v3 g3 hfit H2 HX2 K2 p0 p1 p2 p3 x0 x1 x2 hX hpw
    go_upto_region 12 with fail
    trace "R12"
    generalize w3.alloc _ = w4 at *
    generalize w3.heap.size = Y at *
    obtain ⟨⟨x0, x1, x2⟩, _, hX⟩ := HX4.out.three
    obtain ⟨⟨p0, p1, p2, p3⟩, hpw⟩ := HQ4.out.cells
    have HI : Hid (∀ wa, Keeps (fun _ => False) w4 wa → Calls Try.prog 39 #[.pointer (some ⟨p, 0, none⟩), .string t] wa (Int12 w4 B p a mb nk sh W E EA cap D s s1 (L1) M (M2 + 1) (i, k, age) t.data.toList win time wgt)) := hide (fun wa ka => by
      refine (pintern_ok wa B p a mb cap nk E EA D s1 L1 M (M2 + 1) t (HP4.out.quiet ka) (HA4.out.quiet ka) HV3.out HPv.out hM (by omega) (by omega) (Nat.le_trans hB4 ka.size)).mono ?_
      intro e w' hi
      rcases hi with ⟨c, he, hc, h, hA, kk⟩ | ⟨id, x, he, hx, hu, hk, h, hA, v, kk⟩ | ⟨id, x, E1, EA1, cap1, i', k', age', s2, s3, L2, he, hk1, hk2, hno, hn, hE1, hx, hu, hid1, hleast, h, hA, hV, g', wr, hage', hfit', v, kk⟩
      · refine .no c he ?_ ?_ h hA (ka.trans kk)
        · rcases hc with ⟨_, rfl⟩ | ⟨_, rfl⟩ | ⟨_, _, _, _, rfl⟩ | ⟨_, _, _, _, ⟨rfl, _⟩ | ⟨rfl, _⟩⟩ <;> omega
        · rcases hc with ⟨h4, _⟩ | ⟨h4, _⟩ | ⟨_, _, _, h4, rfl⟩ | ⟨_, _, _, _, h4⟩
          · have := HLen.out; rw [h4] at this; simp at this; omega
          · have := HLen.out; omega
          · exact .inl ⟨by rw [← h4]; exact HIv.out.cnt, rfl⟩
          · refine .inr ⟨livesA s1, fun j => ?_, ?_⟩
            · rw [got_lives HG.out j, ← HFit.out, HIv.out.fit]
            · have := noslot_L h4
              rw [HG.out.shape, HIv.out.hsh] at this
              exact this
      · refine .ok id _ EA cap D s1 L1 he ?_ h hA ?_ (PoS.quiet ka kk)
        · rw [← hk]
          exact HIv.out.old HG.out HFit.out (HV3.out.more (show M2 + 1 ≤ M2 + 1 + 1 by omega)) hx hu v win time wgt
        · have := cntU_set E id x { x with users := x.users + 1 } hx
          simp only [hu, show (0 : Int) < x.users + 1 by omega, if_true] at this
          have := hkn.out
          omega
      · refine .ok id _ EA1 cap1 _ s3 L2 he (HIv.out.new HG.out HFit.out hV hE1 hx hu g' wr hfit' v win time wgt) h hA ?_ (PoS.quiet ka kk)
        have hE1c : cntU E1 = cntU E := by
          rcases hE1 with rfl | rfl
          · rfl
          · rw [cntU_app]; rfl
        have := cntU_set E1 id x ⟨(i', k', age'), t.data.toList, 1⟩ hx
        rw [if_neg (by omega), if_pos (by show (0 : Int) < 1; omega)] at this
        have := hkn.out
        omega)
    clear HP4 HPv
    have HSg : Hid (∀ W, Keeps (PoS B w4) w4 W → (Keeps (PoS B w4) w4 W ∧ W.cell? ⟨q, 1, none⟩ = some (.pointer (some ⟨p, 0, none⟩)) ∧ W.cell? ⟨X, 0, none⟩ = some (.string t))) := hide (fun W kW => by
      have n1 := PoS.not (B := B) HQ4.out.blk (by decide) (by decide) (by decide) (by decide) (by decide)
      have n2 := PoS.not (B := B) HX4.out (by decide) (by decide) (by decide) (by decide) (by decide)
      exact ⟨kW, kW.cell_some p1 n1, kW.cell_some x0 n2⟩)
    refine wp_region_held_drew (S := fun W => Keeps (PoS B w4) w4 W ∧ W.cell? ⟨q, 1, none⟩ = some (.pointer (some ⟨p, 0, none⟩)) ∧ W.cell? ⟨X, 0, none⟩ = some (.string t)) (by kernel_rfl) (HSg.out _ ((Keeps.refl _ _).drew)) (fun hHeld => ?_)
    refine wpAnyH_take (i := 0) (v := ?_) rfl (by kernel_rfl) (by kernel_rfl) (by kernel_rfl) (fun _ _ _ h => h) (Or.inl ⟨by first | kernel_rfl | rfl, ?_⟩) (by assumption) ?_; rotate_left; focus (intro w hSw; (try dsimp only at hSw); go_simp; try (with_reducible rfl)); (try simp only [Act.put, List.getElem_toArray, List.getElem_cons_succ, List.getElem_cons_zero, List.setIfInBounds_toArray, List.set_cons_zero, List.set_cons_succ])
    refine wpAnyH_take (i := 1) (v := ?_) rfl (by kernel_rfl) (by kernel_rfl) (by kernel_rfl) (fun _ _ _ h => h) (Or.inl ⟨by first | kernel_rfl | rfl, ?_⟩) (by assumption) ?_; rotate_left; focus (intro w hSw; (try dsimp only at hSw); go_simp; try (with_reducible rfl)); (try simp only [Act.put, List.getElem_toArray, List.getElem_cons_succ, List.getElem_cons_zero, List.setIfInBounds_toArray, List.set_cons_zero, List.set_cons_succ])
    refine wpAnyH_take (i := 2) (v := ?_) rfl (by kernel_rfl) (by kernel_rfl) (by kernel_rfl) (fun _ _ _ h => h) (Or.inl ⟨by first | kernel_rfl | rfl, ?_⟩) (by assumption) ?_; rotate_left; focus (intro w hSw; (try dsimp only at hSw); go_simp; try (with_reducible rfl)); (try simp only [Act.put, List.getElem_toArray, List.getElem_cons_succ, List.getElem_cons_zero, List.setIfInBounds_toArray, List.set_cons_zero, List.set_cons_succ])
    refine wpAnyH_take (i := 3) (v := ?_) rfl (by kernel_rfl) (by kernel_rfl) (by kernel_rfl) (fun _ _ _ h => h) (Or.inl ⟨by first | kernel_rfl | rfl, ?_⟩) (by assumption) ?_; rotate_left; focus (intro w hSw; (try dsimp only at hSw); go_simp; try (with_reducible rfl)); (try simp only [Act.put, List.getElem_toArray, List.getElem_cons_succ, List.getElem_cons_zero, List.setIfInBounds_toArray, List.set_cons_zero, List.set_cons_succ])
    refine wpAnyH_take (i := 4) (v := ?_) rfl (by kernel_rfl) (by kernel_rfl) (by kernel_rfl) (fun _ _ _ h => h) (Or.inl ⟨by first | kernel_rfl | rfl, ?_⟩) (by assumption) ?_; rotate_left; focus (intro w hSw; (try dsimp only at hSw); go_simp; try (with_reducible rfl)); (try simp only [Act.put, List.getElem_toArray, List.getElem_cons_succ, List.getElem_cons_zero, List.setIfInBounds_toArray, List.set_cons_zero, List.set_cons_succ])
    refine wpAnyH_take (i := 5) (v := ?_) rfl (by kernel_rfl) (by kernel_rfl) (by kernel_rfl) (fun _ _ _ h => h) (Or.inl ⟨by first | kernel_rfl | rfl, ?_⟩) (by assumption) ?_; rotate_left; focus (intro w hSw; (try dsimp only at hSw); go_simp; try (with_reducible rfl)); (try simp only [Act.put, List.getElem_toArray, List.getElem_cons_succ, List.getElem_cons_zero, List.setIfInBounds_toArray, List.set_cons_zero, List.set_cons_succ])
    refine wpAnyH_ready (rs := [6]) (by kernel_rfl) (by simp) ?_
    refine AllReadyH.cons rfl (fun K hK => ?_) AllReadyH.nil
    go_simp
    trace "INTERN"
    go_at_call 39
    refine (HI.out _ ((Keeps.refl _ _).drew)).mono ?_
    intro e w5 hi
    rcases hi with ⟨c, rfl, hc0, hcw, h5, a5, k5⟩ | ⟨id, E5, EA5, cap5, D5, s5, L5, rfl, i5, h5, a5, n5, k5⟩
    · have hcb : (c != 0) = true := by simpa using hc0
      have HCw := hide hcw
      have HP5 := hide h5
      have HA5 := hide a5
      have K5 := hide k5
      clear hcw h5 a5 k5 hc0 HI
      have HQ5 := hide (HQ4.out.quiet K5.out)
      have HY5 := hide (HY4.out.kept K5.out (fun h => h))
      have hB5 : B ≤ w5.heap.size := Nat.le_trans hB4 K5.out.size
      refine hK.out _ _ (HSg.out _ (K5.out.weak (fun _ _ h => h.elim))) (fun _ => ?_)
      clear hK K HSg hHeld
      (try simp only [Act.put, List.getElem_toArray, List.getElem_cons_succ, List.getElem_cons_zero, List.setIfInBounds_toArray, List.set_cons_zero, List.set_cons_succ])
      refine wpAnyH_take (i := 7) (v := ?_) rfl (by kernel_rfl) (by kernel_rfl) (by kernel_rfl) (fun _ _ _ h => h) (Or.inl ⟨by first | kernel_rfl | rfl, ?_⟩) (by assumption) ?_; rotate_left; focus (intro w hSw; (try dsimp only at hSw); go_simp; try (with_reducible rfl)); (try simp only [Act.put, List.getElem_toArray, List.getElem_cons_succ, List.getElem_cons_zero, List.setIfInBounds_toArray, List.set_cons_zero, List.set_cons_succ])
      refine wpAnyH_take (i := 8) (v := ?_) rfl (by kernel_rfl) (by kernel_rfl) (by kernel_rfl) (fun _ _ _ h => h) (Or.inl ⟨by first | kernel_rfl | rfl, ?_⟩) (by assumption) ?_; rotate_left; focus (intro w hSw; (try dsimp only at hSw); go_simp; try (with_reducible rfl)); (try simp only [Act.put, List.getElem_toArray, List.getElem_cons_succ, List.getElem_cons_zero, List.setIfInBounds_toArray, List.set_cons_zero, List.set_cons_succ])
      refine wpAnyH_take (i := 9) (v := ?_) rfl (by kernel_rfl) (by kernel_rfl) (by kernel_rfl) (fun _ _ _ h => h) (Or.inl ⟨by first | kernel_rfl | rfl, ?_⟩) (by assumption) ?_; rotate_left; focus (intro w hSw; (try dsimp only at hSw); go_simp; try (with_reducible rfl)); (try simp only [Act.put, List.getElem_toArray, List.getElem_cons_succ, List.getElem_cons_zero, List.setIfInBounds_toArray, List.set_cons_zero, List.set_cons_succ])
      refine wpAnyH_take (i := 10) (v := ?_) rfl (by kernel_rfl) (by kernel_rfl) (by kernel_rfl) (fun _ _ _ h => h) (Or.inl ⟨by first | kernel_rfl | rfl, ?_⟩) (by assumption) ?_; rotate_left; focus (intro w hSw; (try dsimp only at hSw); go_simp; try (with_reducible rfl)); (try simp only [Act.put, List.getElem_toArray, List.getElem_cons_succ, List.getElem_cons_zero, List.setIfInBounds_toArray, List.set_cons_zero, List.set_cons_succ])
      refine wpAnyH_take (i := 11) (v := ?_) rfl (by kernel_rfl) (by kernel_rfl) (by kernel_rfl) (fun _ _ _ h => h) (Or.inl ⟨by first | kernel_rfl | rfl, ?_⟩) (by assumption) ?_; rotate_left; focus (intro w hSw; (try dsimp only at hSw); go_simp; try (with_reducible rfl)); (try simp only [Act.put, List.getElem_toArray, List.getElem_cons_succ, List.getElem_cons_zero, List.setIfInBounds_toArray, List.set_cons_zero, List.set_cons_succ])
      refine wpAnyH_done (by kernel_rfl) ?_ _
      (try simp only [Act.put, List.getElem_toArray, List.getElem_cons_succ, List.getElem_cons_zero, List.setIfInBounds_toArray, List.set_cons_zero, List.set_cons_succ])
      trace "NO2"
      clear p0 p1 p2 p3 x0 x1 x2 hX hpw HQ4 HY4
      obtain ⟨⟨y0, y1, y2⟩, _, hY⟩ := HY5.out.three
      obtain ⟨⟨p0, p1, p2, p3⟩, hpw⟩ := HQ5.out.cells
      go_upto_region 14 with fail
      trace "R14"
      have HSg : Hid (∀ W, Keeps (ArS B w5) w5 W → (Keeps (ArS B w5) w5 W ∧ W.cell? ⟨q, 0, none⟩ = some (.pointer (some ⟨a, 0, none⟩)) ∧ W.cell? ⟨Y, 0, none⟩ = some (.int .i64 i) ∧ W.cell? ⟨Y, 1, none⟩ = some (.int .i64 k) ∧ W.cell? ⟨Y, 2, none⟩ = some (.int .i64 age))) := hide (fun W kW => by
        have n1 := ArS.not (B := B) HQ5.out.blk (by decide) (by decide) (by decide)
        have n2 := ArS.not (B := B) HY5.out (by decide) (by decide) (by decide)
        exact ⟨kW, kW.cell_some p0 n1, kW.cell_some y0 n2, kW.cell_some y1 n2, kW.cell_some y2 n2⟩)
      refine wp_region_held_drew (S := fun W => Keeps (ArS B w5) w5 W ∧ W.cell? ⟨q, 0, none⟩ = some (.pointer (some ⟨a, 0, none⟩)) ∧ W.cell? ⟨Y, 0, none⟩ = some (.int .i64 i) ∧ W.cell? ⟨Y, 1, none⟩ = some (.int .i64 k) ∧ W.cell? ⟨Y, 2, none⟩ = some (.int .i64 age)) (by kernel_rfl) (HSg.out _ ((Keeps.refl _ _).drew)) (fun hHeld => ?_)
      refine wpAnyH_take (i := 0) (v := ?_) rfl (by kernel_rfl) (by kernel_rfl) (by kernel_rfl) (fun _ _ _ h => h) (Or.inl ⟨by first | kernel_rfl | rfl, ?_⟩) (by assumption) ?_; rotate_left; focus (intro w hSw; (try dsimp only at hSw); go_simp; try (with_reducible rfl)); (try simp only [Act.put, List.getElem_toArray, List.getElem_cons_succ, List.getElem_cons_zero, List.setIfInBounds_toArray, List.set_cons_zero, List.set_cons_succ])
      refine wpAnyH_take (i := 1) (v := ?_) rfl (by kernel_rfl) (by kernel_rfl) (by kernel_rfl) (fun _ _ _ h => h) (Or.inl ⟨by first | kernel_rfl | rfl, ?_⟩) (by assumption) ?_; rotate_left; focus (intro w hSw; (try dsimp only at hSw); go_simp; try (with_reducible rfl)); (try simp only [Act.put, List.getElem_toArray, List.getElem_cons_succ, List.getElem_cons_zero, List.setIfInBounds_toArray, List.set_cons_zero, List.set_cons_succ])
      refine wpAnyH_take (i := 2) (v := ?_) rfl (by kernel_rfl) (by kernel_rfl) (by kernel_rfl) (fun _ _ _ h => h) (Or.inl ⟨by first | kernel_rfl | rfl, ?_⟩) (by assumption) ?_; rotate_left; focus (intro w hSw; (try dsimp only at hSw); go_simp; try (with_reducible rfl)); (try simp only [Act.put, List.getElem_toArray, List.getElem_cons_succ, List.getElem_cons_zero, List.setIfInBounds_toArray, List.set_cons_zero, List.set_cons_succ])
      refine wpAnyH_take (i := 3) (v := ?_) rfl (by kernel_rfl) (by kernel_rfl) (by kernel_rfl) (fun _ _ _ h => h) (Or.inl ⟨by first | kernel_rfl | rfl, ?_⟩) (by assumption) ?_; rotate_left; focus (intro w hSw; (try dsimp only at hSw); go_simp; try (with_reducible rfl)); (try simp only [Act.put, List.getElem_toArray, List.getElem_cons_succ, List.getElem_cons_zero, List.setIfInBounds_toArray, List.set_cons_zero, List.set_cons_succ])
      refine wpAnyH_take (i := 4) (v := ?_) rfl (by kernel_rfl) (by kernel_rfl) (by kernel_rfl) (fun _ _ _ h => h) (Or.inl ⟨by first | kernel_rfl | rfl, ?_⟩) (by assumption) ?_; rotate_left; focus (intro w hSw; (try dsimp only at hSw); go_simp; try (with_reducible rfl)); (try simp only [Act.put, List.getElem_toArray, List.getElem_cons_succ, List.getElem_cons_zero, List.setIfInBounds_toArray, List.set_cons_zero, List.set_cons_succ])
      refine wpAnyH_ready (rs := [5]) (by kernel_rfl) (by simp) ?_
      refine AllReadyH.cons rfl (fun K hK => ?_) AllReadyH.nil
      go_simp
      trace "FREE"
      go_at_call 25
      have kd : Keeps (fun _ => False) w5 w5.drew := (Keeps.refl _ _).drew
      have hlv : LV s1 i k age [] := (HG.out.lvs _ _ _ _).2 (.inl ⟨rfl, rfl, rfl, rfl⟩)
      refine (free_any B a s1 L1 (M2 + 1) i k age [] _ (HA5.out.quiet kd) HV3.out hlv).mono ?_
      rintro e w6 ⟨rfl, ⟨s6, L6, h6, v6, g6⟩, k6⟩
      have k56 := ArS.quiet kd k6
      have HA6 := hide h6
      obtain ⟨qi6, lv6⟩ := HIv.out.undo HG.out g6 (v6.more (show M2 + 1 ≤ M2 + 2 by omega))
      have HI6 := hide qi6
      have HL6 := hide lv6
      have HP6 := hide (HP5.out.ar k56)
      have HQ6 := hide (HQ5.out.ar k56)
      have K6 := hide (QuS.trans K4.out (QuS.trans (QuS.zero K5.out) (QuS.po (PoS.ar k56))))
      have hB6 : B ≤ w6.heap.size := Nat.le_trans hB5 k56.size
      try go_wp2_with fail
      refine hK.out _ _ (HSg.out _ k56) (fun _ => ?_)
      clear hK K HSg hHeld kd k6 k56 h6 qi6 lv6 v6 g6 hlv
      (try simp only [Act.put, List.getElem_toArray, List.getElem_cons_succ, List.getElem_cons_zero, List.setIfInBounds_toArray, List.set_cons_zero, List.set_cons_succ])
      refine wpAnyH_done (by kernel_rfl) ?_ _
      (try simp only [Act.put, List.getElem_toArray, List.getElem_cons_succ, List.getElem_cons_zero, List.setIfInBounds_toArray, List.set_cons_zero, List.set_cons_succ])
      trace "FREED"
      go_wp2_with fail
      go_ret
      exact .no c R E EA cap D s6 L6 rfl (Qu.more ⟨HQ6.out, HP6.out, HA6.out, HI6.out, hB6, hkn.out, hn64⟩ (by omega) (Int.le_refl _)) HL6.out (.inr (.inr (.inr ⟨by have := HM.out; omega, by have := HLen.out; omega, by have := HLen.out; omega, .inr HCw.out⟩))) K6.out
    · have HI5 := hide i5
      have HP5 := hide h5
      have HA5 := hide a5
      have HN5 := hide n5
      have K5 := hide k5
      have HQ5 := hide (HQ4.out.pos k5)
      have HY5 := hide (HY4.out.kept k5 (PoS.not HY4.out (by decide) (by decide) (by decide) (by decide) (by decide)))
      have HX5 := hide (HX4.out.kept k5 (PoS.not HX4.out (by decide) (by decide) (by decide) (by decide) (by decide)))
      have hB5 : B ≤ w5.heap.size := Nat.le_trans hB4 K5.out.size
      refine hK.out _ _ (HSg.out _ k5) (fun _ => ?_)
      clear hK K HSg hHeld i5 h5 a5 n5 k5 HI
      (try simp only [Act.put, List.getElem_toArray, List.getElem_cons_succ, List.getElem_cons_zero, List.setIfInBounds_toArray, List.set_cons_zero, List.set_cons_succ])
      refine wpAnyH_take (i := 7) (v := ?_) rfl (by kernel_rfl) (by kernel_rfl) (by kernel_rfl) (fun _ _ _ h => h) (Or.inl ⟨by first | kernel_rfl | rfl, ?_⟩) (by assumption) ?_; rotate_left; focus (intro w hSw; (try dsimp only at hSw); go_simp; try (with_reducible rfl)); (try simp only [Act.put, List.getElem_toArray, List.getElem_cons_succ, List.getElem_cons_zero, List.setIfInBounds_toArray, List.set_cons_zero, List.set_cons_succ])
      refine wpAnyH_take (i := 8) (v := ?_) rfl (by kernel_rfl) (by kernel_rfl) (by kernel_rfl) (fun _ _ _ h => h) (Or.inl ⟨by first | kernel_rfl | rfl, ?_⟩) (by assumption) ?_; rotate_left; focus (intro w hSw; (try dsimp only at hSw); go_simp; try (with_reducible rfl)); (try simp only [Act.put, List.getElem_toArray, List.getElem_cons_succ, List.getElem_cons_zero, List.setIfInBounds_toArray, List.set_cons_zero, List.set_cons_succ])
      refine wpAnyH_take (i := 9) (v := ?_) rfl (by kernel_rfl) (by kernel_rfl) (by kernel_rfl) (fun _ _ _ h => h) (Or.inl ⟨by first | kernel_rfl | rfl, ?_⟩) (by assumption) ?_; rotate_left; focus (intro w hSw; (try dsimp only at hSw); go_simp; try (with_reducible rfl)); (try simp only [Act.put, List.getElem_toArray, List.getElem_cons_succ, List.getElem_cons_zero, List.setIfInBounds_toArray, List.set_cons_zero, List.set_cons_succ])
      refine wpAnyH_take (i := 10) (v := ?_) rfl (by kernel_rfl) (by kernel_rfl) (by kernel_rfl) (fun _ _ _ h => h) (Or.inl ⟨by first | kernel_rfl | rfl, ?_⟩) (by assumption) ?_; rotate_left; focus (intro w hSw; (try dsimp only at hSw); go_simp; try (with_reducible rfl)); (try simp only [Act.put, List.getElem_toArray, List.getElem_cons_succ, List.getElem_cons_zero, List.setIfInBounds_toArray, List.set_cons_zero, List.set_cons_succ])
      refine wpAnyH_take (i := 11) (v := ?_) rfl (by kernel_rfl) (by kernel_rfl) (by kernel_rfl) (fun _ _ _ h => h) (Or.inl ⟨by first | kernel_rfl | rfl, ?_⟩) (by assumption) ?_; rotate_left; focus (intro w hSw; (try dsimp only at hSw); go_simp; try (with_reducible rfl)); (try simp only [Act.put, List.getElem_toArray, List.getElem_cons_succ, List.getElem_cons_zero, List.setIfInBounds_toArray, List.set_cons_zero, List.set_cons_succ])
      refine wpAnyH_done (by kernel_rfl) ?_ _
      (try simp only [Act.put, List.getElem_toArray, List.getElem_cons_succ, List.getElem_cons_zero, List.setIfInBounds_toArray, List.set_cons_zero, List.set_cons_succ])
      trace "OK"
      clear p0 p1 p2 p3 x0 x1 x2 hX hpw HQ4 HY4 HX4
      obtain ⟨⟨y0, y1, y2⟩, _, hY⟩ := HY5.out.three
      obtain ⟨⟨x0, x1, x2⟩, _, hX⟩ := HX5.out.three
      obtain ⟨⟨p0, p1, p2, p3⟩, hpw⟩ := HQ5.out.cells
      rw [← HM.out] at p3
      have hRl : R.length = n - m := by have := HQ5.out.len; have := HM.out; omega
      obtain ⟨z0, hz0⟩ : ∃ z, (W ++ R)[m]? = some z := ⟨(W ++ R)[m]'(by rw [List.length_append]; have := HM.out; omega), by simp⟩
      obtain ⟨c0, c1, c2, c3, c4, c5, c6⟩ := HQ5.out.at hz0
      have ff := fun j => HQ5.out.own.frozen j
      have f0 := ff (m * 7)
      have f1 := ff (m * 7 + 1)
      have f2 := ff (m * 7 + 2)
      have f3 := ff (m * 7 + 3)
      have f4 := ff (m * 7 + 4)
      have f5 := ff (m * 7 + 5)
      have f6 := ff (m * 7 + 6)
      have hmI : (m : Int) < (n : Int) := by omega
      have hm0 : (0 : Int) ≤ (m : Int) := by omega
      clear hRl hz0 ff
      go_upto_region 16 with fail
      trace "R16"
      go_region
      trace "R16b"
      obtain ⟨qa, ka⟩ := HQ5.out.add (by have := HM.out; omega) ⟨win, time, wgt, (i, k, age), id, t.data.toList⟩
      rw [← HM.out] at qa ka
      dsimp only at qa ka
      have HQ6 := hide (qa.quiet ((Keeps.refl (fun _ => False) _).drew))
      have HP6 := hide ((HP5.out.kept ka (fun b hb => HQ5.out.othP (.inr hb))).quiet ((Keeps.refl (fun _ => False) _).drew))
      have HA6 := hide ((HA5.out.kept ka (fun b hb => HQ5.out.othQ (.inr hb))).quiet ((Keeps.refl (fun _ => False) _).drew))
      have K6 := hide (QuS.trans (QuS.trans K4.out (QuS.po K5.out)) (Keeps.drew (ka.weak (S' := QuS B w5) (fun b _ hb => by subst hb; exact HQ5.out.inG))))
      have hB6 := Nat.le_trans hB5 ((Keeps.drew ka).size)
      clear qa ka HQ5 HP5 HA5 K4 K5 HY5 HX5 y0 y1 y2 hY x0 x1 x2 hX c0 c1 c2 c3 c4 c5 c6 f0 f1 f2 f3 f4 f5 f6 p0 p1 p2 p3 hpw hB5
      generalize World.drew _ = w6 at *
      obtain ⟨⟨p0, p1, p2, p3⟩, hpw⟩ := HQ6.out.cells
      rw [← HM.out] at p3
      have fq := HQ6.out.blk.frozen 3
      obtain ⟨qb, kb⟩ := HQ6.out.count (W' := W ++ [⟨win, time, wgt, (i, k, age), id, t.data.toList⟩]) (R' := R.tail) (by simp) ((m : Int) + 1) (by have := HM.out; simp; omega)
      have HQ7 := hide qb
      have HP7 := hide (HP6.out.kept kb (fun b hb => HQ6.out.othP (.inl hb)))
      have HA7 := hide (HA6.out.kept kb (fun b hb => HQ6.out.othQ (.inl hb)))
      have K7 := hide (QuS.trans K6.out (kb.weak (S' := QuS B w6) (fun b _ hb => by subst hb; exact HQ6.out.inQ)))
      have hB7 := Nat.le_trans hB6 kb.size
      clear qb kb HQ6 HP6 HA6 K6
      go_wp2_with fail
      trace "END"
      go_ret
      exact .ok (i, k, age) id R.tail E5 EA5 cap5 D5 s5 L5 rfl (by have := HM.out; omega) ⟨by have := HLen.out; omega, by have := HLen.out; omega⟩ (Qu.more ⟨HQ7.out, HP7.out, HA7.out, HI5.out, hB7, HN5.out, hn64⟩ (Int.le_refl _) (by omega)) K7.out
end Go.Proofs.Ytidobhflijdccaa
