/-
  PoolEmpty: a pool uses one slot for each of its keys, and none when all users are gone. No conditions beyond those of the statement.
-/
import Derived.Test.YtidobhflijdccaaPs
import Derived.Test.YtidobhflijdccaaShort
set_option linter.unusedVariables false
set_option linter.unusedSimpArgs false
namespace Go.Proofs.Ytidobhflijdccaa
open Go.RowKit Cfp
/-- the users of a number -/
def usAt (E : List PE) (j : Nat) : Int := (E.getD j PE.zero).users
theorem usAt_get {E : List PE} {j : Nat} {x : PE} (h : E[j]? = some x) : usAt E j = x.users := by simp [usAt, List.getD, h]
theorem usAt_has {E : List PE} {j : Nat} (h : 0 < usAt E j) : ∃ x, E[j]? = some x ∧ 0 < x.users := by
  rcases hx : E[j]? with _ | x
  · simp [usAt, List.getD, hx, PE.zero] at h
  · exact ⟨x, rfl, by rw [usAt_get hx] at h; exact h⟩
theorem usAt_set {E : List PE} {id j : Nat} {x : PE} (h : E[id]? = some x) (y : PE) : usAt (E.set id y) j = if j = id then y.users else usAt E j := by
  have hi := (List.getElem?_eq_some_iff.1 h).1
  by_cases e : j = id
  · subst e
    simp [usAt, List.getD, hi]
  · simp [usAt, List.getD, List.getElem?_set, show ¬ id = j from fun q => e q.symm]
    simp [e]
theorem usAt_app (E : List PE) (j : Nat) : usAt (E ++ [PE.zero]) j = usAt E j := by
  unfold usAt
  congr 1
  rw [List.getD, List.getD, List.getElem?_append]
  split
  · rfl
  · next h =>
    rw [List.getElem?_eq_none (by omega : E.length ≤ j)]
    rcases hq : j - E.length with _ | q <;> simp
theorem takes_us {E E' : List PE} {key : List UInt8} {id : Nat} (h : Takes E E' key id) (j : Nat) : usAt E' j = usAt E j + (if j = id then 1 else 0) := by
  rcases h with ⟨x, hx, hu, _, rfl⟩ | ⟨x, E1, q, hno, hE1, hx, hu, h1, hl, rfl⟩
  · rw [usAt_set hx]
    split
    · next e => subst e; rw [usAt_get hx]
    · omega
  · rw [usAt_set hx]
    have e1 : usAt E1 j = usAt E j := by rcases hE1 with rfl | rfl; rfl; exact usAt_app E j
    split
    · next e => subst e; rw [← e1, usAt_get hx, hu]; rfl
    · omega
theorem cntU_zero : ∀ (E : List PE), (∀ j, usAt E j = 0) → cntU E = 0
  | [], _ => rfl
  | e :: l, h => by
    have h0 := h 0
    have h1 := cntU_zero l (fun j => by have := h (j + 1); simpa [usAt, List.getD] using this)
    simp [usAt, List.getD] at h0
    simp [cntU, h0, h1]
theorem One.kept {w w' : World} {B p a mb : Nat} {n sz cnt : Int} {E : List PE} {EA : Option Addr} {cap : Nat} {D : KD} {s : Ar} {L : Nat → List Nat} {M M2 : Int} {S : Nat → Prop} (h : One w B p a mb n sz cnt E EA cap D s L M M2) (k : Keeps S w w') (h1 : ∀ b, S b → Other w B b) (h2 : ∀ b, S b → OthP w B b) : One w' B p a mb n sz cnt E EA cap D s L M M2 :=
  ⟨h.po.kept k h2, h.ar.kept k h1, h.iv, h.pv, h.sh, h.lv, h.fa, Nat.le_trans h.hB k.size⟩
theorem One.low {w w' : World} {B p a mb g : Nat} {n sz cnt : Int} {E : List PE} {EA : Option Addr} {cap : Nat} {D : KD} {s : Ar} {L : Nat → List Nat} {M M2 : Int} (h : One w B p a mb n sz cnt E EA cap D s L M M2) (k : Keeps (· = g) w w') (hg : g < B) : One w' B p a mb n sz cnt E EA cap D s L M M2 :=
  h.kept k (fun b e => .inl (by omega)) (fun b e => .inl (by omega))
/-- a slice of integers of the call's own is none of a pool's blocks -/
theorem Own.po {w : World} {base sz n c : Nat} {A : Option Addr} {xs : List Value} (h : Own w base 3 sz A n c xs) {B b : Nat} (hb : Go.Proofs.Ytidobhflijdccaa.inB A b) : ¬ PoS B w b := by
  obtain ⟨cs, h4⟩ := h.blk hb
  exact PoS.not h4 (by decide) (by decide) (by decide) (by decide) (by decide)
theorem One.own {w w' : World} {B p a mb : Nat} {n sz cnt : Int} {E : List PE} {EA : Option Addr} {cap : Nat} {D : KD} {s : Ar} {L : Nat → List Nat} {M M2 : Int} (h : One w B p a mb n sz cnt E EA cap D s L M M2) {base z k c : Nat} {A : Option Addr} {xs : List Value} (o : Own w base 3 z A k c xs) (kk : Keeps (inB A) w w') : One w' B p a mb n sz cnt E EA cap D s L M M2 :=
  h.kept kk (fun b hb => by obtain ⟨cs, h4⟩ := o.blk hb; exact .inr ⟨_, _, h4, by decide, by decide, by decide, by decide⟩) (fun b hb => by obtain ⟨cs, h4⟩ := o.blk hb; exact .inr ⟨_, _, h4, by decide, by decide⟩)
/-- what Usage gives here -/
def Us1 (w : World) (v : Nat) (e : Ending) (w' : World) : Prop :=
  ∃ C m b, e = .returned (.agg #[.slice (some ⟨C, 0, none⟩) 1 m, .int .i64 b, .int .i64 0]) ∧ w'.cell? ⟨C, 0, none⟩ = some (.int .i64 v) ∧ C < w'.heap.size ∧ Keeps (fun _ => False) w w'
theorem usage1 {w : World} {B p a mb : Nat} {n sz cnt : Int} {E : List PE} {EA : Option Addr} {cap : Nat} {D : KD} {s : Ar} {L : Nat → List Nat} {M M2 : Int} (h : One w B p a mb n sz cnt E EA cap D s L M M2) :
    Calls Try.prog 26 #[.pointer (some ⟨a, 0, none⟩)] w (Us1 w (cntU E)) := by
  refine (usage_inv B a s L M2 w h.ar h.iv).mono ?_
  rintro e w' ⟨D1, m, rfl, o, k⟩
  have hl : s.cls.length = 1 := by have := congrArg List.length h.sh; simpa [shapeA] using this
  rw [hl] at o ⊢
  obtain ⟨C, rfl, _, hC⟩ := o.some_ (by omega)
  have := o.cell 0 (by omega)
  rw [h.lv] at this
  rw [h.fa]
  exact ⟨C, m, _, rfl, this, hC, k⟩
def ex40 : List (Int × Int) := [(4, 40)]
namespace poolEmpty
set_option maxRecDepth 100000 in
set_option maxHeartbeats 3000000 in
theorem main (w : World) (A1 : Option Addr) (n1 c1 : Nat) (zs : List Int) (hd : Rd w w.heap.size A1 1 n1 (zs.map (.int .i64))) (hz : ∀ z ∈ zs, -9223372036854775808 ≤ z ∧ z < 9223372036854775808) (hn1 : n1 ≤ 17592186043904) :
    Calls Try.prog 9 #[.slice A1 n1 c1] w fun e w' => e = .returned (.bool true) ∧ Keeps (fun _ => False) w w' := by
  have HD := hide hd
  clear hd
  go_enter Try.func9, Try.ntmps9
  go_wp2_with fail
  refine (new_deck A1 n1 c1 zs _ w (Nat.le_refl _) HD.out hz (by omega)).mono ?_
  rintro e w1 ⟨rfl, d1, k1⟩
  have hg : w.heap.size < w1.heap.size := d1.lt
  have HDk := hide d1
  have K1 := hide k1
  have k2 := (Keeps.refl (fun _ => False) w1).alloc (.cells #[.int .i64 4, .int .i64 40] 37)
  have r2 := (show Blk (w1.alloc (.cells #[.int .i64 4, .int .i64 40] 37)) w1.heap.size 37 (prs ex40).toArray from Blk.new _ _ _).rd (n := 1) (sz := 2) rfl
  have HN := hide (anew_ok ex40 rfl (some ⟨w1.heap.size, 0, none⟩) 1 1 _ _ r2 (Nat.le_refl _))
  have K2 := hide k2
  clear k1 k2 r2 d1
  go_wp2_with fail
  trace "NEW"
  refine HN.out.mono ?_
  rintro e w3 ⟨a, CA, c, rfl, h3, k3⟩
  obtain ⟨B, hBe⟩ : ∃ B, B = (w1.alloc (.cells #[.int .i64 4, .int .i64 40] 37)).heap.size := ⟨_, rfl⟩
  rw [← hBe] at h3
  have hwB : w1.heap.size ≤ B := by rw [hBe]; exact K2.out.size
  have hB3 : B ≤ w3.heap.size := by rw [hBe]; exact k3.size
  have H3 := hide h3
  have K3 := hide (K2.out.trans k3)
  clear h3 k3 K2 hBe HN
  go_wp2_with fail
  trace "PNEW"
  refine (pnew_ok w3 a 40 (by omega) (by omega)).mono ?_
  rintro e w4 ⟨p, g, mb, rfl, h4, k4⟩
  have HO4 := hide (One.new (h4.base hB3) (H3.out.quiet k4) rfl (Nat.le_trans hB3 k4.size))
  have K4 := hide (K3.out.trans k4)
  have HD4 := hide (HDk.out.kept K4.out (fun h => h) (fun _ _ h => h))
  have hw4 : w.heap.size < w4.heap.size := by have := K4.out.size; omega
  have HW4 := hide (K1.out.trans K4.out)
  clear h4 k4 K3 H3 HDk
  go_wp2_with fail
  trace "NEXT"
  refine (next_any 30 (by omega) (by omega) _ _ w4 HD4.out).mono ?_
  rintro e w5 ⟨y, rfl, y0, y1, hd5, k5⟩
  have HO5 := hide (HO4.out.low k5 (by omega))
  have HD5 := hide hd5
  have K5 := hide (HW4.out.step k5 (fun b hb e => by omega))
  have hw5 : w4.heap.size ≤ w5.heap.size := k5.size
  clear hd5 k5 HO4 HD4 K4 HW4
  go_upto_region 8 with fail
  trace "LOOP"
  go_loopw [8, 9, 10, 11, 12] (fun iv kv _ _ _ wr => ∃ (j : Nat) (I : List Nat) (D0 : Option Addr) (m0 : Nat) (E : List PE) (EA : Option Addr) (cap : Nat) (D : KD) (s : Ar) (L : Nat → List Nat), (j : Int) ≤ y ∧ iv = .slice D0 j m0 ∧ kv = .int .i64 (y - j) ∧ Hid (I.length = j ∧ cntU E ≤ j ∧ ∀ q, usAt E q = (I.count q : Int)) ∧ Hid (Own wr w4.heap.size 3 1 D0 j m0 (I.map fun i : Nat => .int .i64 i)) ∧ Hid (One wr B p a mb 40 4 40 E EA cap D s L j j) ∧ Hid (IsDeck wr w.heap.size w.heap.size) ∧ Hid (Keeps (fun _ => False) w wr) ∧ w4.heap.size ≤ wr.heap.size) (fun _ kv _ _ _ _ => (intOf kv).toNat)
  case atStart => exact ⟨0, [], none, 0, _, _, _, _, _, _, by omega, rfl, by simp, hide ⟨rfl, by decide, fun q => by rcases q with _ | q <;> rfl⟩, hide (Own.nil _ _ _ _), HO5, HD5, K5, hw5⟩
  case round =>
    obtain ⟨j, I, D0, m0, E, EA, cap, D, s, L, hjy, rfl, rfl, HI, HO, HOn, HDk, HK, hwr⟩ := hrel
    clear HO5 HD5 K5
    by_cases hlt : (j : Int) < y
    · have e1 : decide ((0 : Int) < y - (j : Int)) = true := by simp; omega
      have e2 : decide ((j : Int) < y) = true := by simpa using hlt
      have wk : IntKind.i64.wrap (y - (j : Int) - 1) = y - ((j + 1 : Nat) : Int) := by rw [IntWalk.i64_in _ (by omega)]; omega
      have hle := HO.out.le
      go_wp2_with fail
      trace "SHORT"
      refine (short_any _ _ wr HDk.out).mono ?_
      rintro e w6 ⟨t, rfl, t2, t3, hd6, k6⟩
      have HD6 := hide hd6
      have HO6 := hide (HOn.out.low k6 (by omega))
      have OI6 := hide (HO.out.kept k6 (fun b hb e => by have := HO.out.inB hb; omega))
      have K6 := hide (HK.out.step k6 (fun b hb e => by omega))
      have hw6 := Nat.le_trans hwr k6.size
      clear hd6 k6 HDk HOn HO HK
      go_wp2_with fail
      trace "INTERN"
      refine (intern1 w6 B p a mb 40 4 40 E EA cap D s L j j t HO6.out (by omega) (by omega) (by omega) (by omega) (by omega) (by have := HI.out.2.1; omega) (by omega)).mono ?_
      rintro e w7 ⟨E7, EA7, cap7, D7, s7, L7, id, rfl, o7, tk, hcu, k7⟩
      have HO7 := hide o7
      have HD7 := hide (HD6.out.kept k7 (PoS.low (by omega)) (fun b hb => PoS.low (by omega)))
      have OI7 := hide (OI6.out.kept k7 (fun b hb => OI6.out.po hb))
      have K7 := hide (PoS.to0 K6.out k7 (by omega))
      have HI7 : Hid ((I ++ [id]).length = j + 1 ∧ cntU E7 ≤ j + 1 ∧ ∀ q, usAt E7 q = ((I ++ [id]).count q : Int)) := hide ⟨by simp [HI.out.1], by have := HI.out.2.1; omega, fun q => by
        rw [takes_us tk, HI.out.2.2 q, List.count_append, List.count_singleton]
        by_cases e : q = id
        · subst e; simp
        · simp [e, show ¬ id = q from fun h => e h.symm]⟩
      have hw7 := Nat.le_trans hw6 k7.size
      clear o7 tk hcu k7 HO6 HD6 OI6 K6 HI
      go_upto_region 14 with (at_builtin; go_loud (refine wpList_app _ elemInt rfl (.tmp 58) (.tmp 60) rfl w4.heap.size _ rfl (OI7.out.kept ((Keeps.refl (fun _ => False) w7).alloc _) (fun _ _ h => h)) _ (m := 1) [.int .i64 id] rfl (by exact Blk.rd (xs := [.int .i64 id]) (Blk.new_at _ _ _ _ (by simp)) rfl) (by simp [Value.oneCell']) (by simp only [maxLen]; omega) (by omega) (by simp; omega) ?_; intro A8 c8 w8 o8 k8 hA8; have hkA := (Keeps.refl (fun _ => False) w7).alloc (.cells #[.int .i64 id] 3); have OA := OI7.out.kept hkA (fun _ _ h => h); have HO8 := hide ((HO7.out.quiet hkA).own OA k8); have HD8 := hide ((HD7.out.kept hkA (fun h => h) (fun _ _ h => h)).kept k8 (fun h => by have := OA.inB h; omega) (fun b hb h => by have := OA.inB h; omega)); have K8 := hide ((K7.out.trans hkA).step k8 (fun b hb h => by have := OA.inB h; omega)); have OI8 := hide o8; have hw8 := Nat.le_trans hw7 (Nat.le_trans hkA.size k8.size); clear o8 k8 hA8 hkA OA))
      trace "R14"
      clear HO7 HD7 OI7 K7
      go_wp2_with fail
      trace "USAGE"
      refine (usage1 HO8.out).mono ?_
      rintro e w9 ⟨C, mC, bC, rfl, hc9, hC9, k9⟩
      have kb := (Keeps.refl (fun _ => False) w9).alloc (.cells #[.slice (some ⟨C, 0, none⟩) 1 mC, .int .i64 bC, .int .i64 0] 46)
      have k10 := k9.trans kb
      have HX := hide (Blk.new w9 46 #[.slice (some ⟨C, 0, none⟩) 1 mC, .int .i64 bC, .int .i64 0])
      have HO10 := hide (HO8.out.quiet k10)
      have HD10 := hide (HD8.out.kept k10 (fun h => h) (fun _ _ h => h))
      have OI10 := hide (OI8.out.kept k10 (fun _ _ h => h))
      have K10 := hide (K8.out.trans k10)
      have hc10 := kb.cell_some hc9 (fun h => h)
      have hw10 := Nat.le_trans hw8 k10.size
      have hC10 : C < (w9.alloc (.cells #[.slice (some ⟨C, 0, none⟩) 1 mC, .int .i64 bC, .int .i64 0] 46)).heap.size := Nat.lt_of_lt_of_le hC9 kb.size
      clear k9 kb k10 HO8 HD8 OI8 K8 hc9 hC9
      go_upto_region 15 with fail
      trace "R15"
      generalize w9.alloc _ = w10 at *
      generalize w9.heap.size = X at *
      obtain ⟨⟨x0, x1, x2⟩, _, hX⟩ := HX.out.three
      have HLq : Hid (∀ q, Calls Try.prog 44 #[.pointer (some ⟨p, 0, none⟩)] (w10.drewN q) fun e w' => e = .returned (.int .i64 (cntU E7 : Int)) ∧ ∃ m, w' = w10.drewN m) := hide (fun q => (plen_ok (w10.drewN q) B p a mb _ _ _ _ _ (HO10.out.po.quiet ((Keeps.refl (fun _ => False) w10).drewN _)) HO10.out.pv.says).mono (fun e w' ⟨he, hw⟩ => ⟨he, q, hw⟩))
      go_quiet ((go_at_call 44; exact HLq.out _))
      trace "R15b"
      go_wp2_with fail
      go_roundw
      case rel =>
        have kq : ∀ q, Keeps (fun _ => False) w10 (w10.drewN q) := fun q => (Keeps.refl _ _).drewN _
        refine ⟨j + 1, I ++ [id], A8, c8, E7, EA7, cap7, D7, s7, L7, by omega, rfl, by go_num, HI7, ?_, hide (HO10.out.quiet (kq _)), hide (HD10.out.kept (kq _) (fun h => h) (fun _ _ h => h)), hide (K10.out.trans (kq _)), hw10⟩
        rw [List.map_append]
        exact OI10.out.drewN _
      case measure => simp [intOf]; omega
    · have e1 : decide ((0 : Int) < y - (j : Int)) = false := by simp; omega
      have e2 : decide ((j : Int) < y) = false := by simpa using hlt
      obtain rfl : y = j := by omega
      have hj40 : j ≤ 30 := by omega
      have HIc := hide (HI.out.2.2)
      have HIl := hide (HI.out.1)
      clear HI
      go_wp2_with fail
      trace "LOOP2"
      go_loopw [14, 79] (fun _ iv w2 => ∃ (q : Nat) (E2 : List PE) (D2 : KD) (s2 : Ar) (L2 : Nat → List Nat), q ≤ j ∧ iv = .int .i64 q ∧ Hid (∀ r, usAt E2 r = ((I.drop q).count r : Int)) ∧ Hid (Own w2 w4.heap.size 3 1 D0 j m0 (I.map fun i : Nat => .int .i64 i)) ∧ Hid (One w2 B p a mb 40 4 40 E2 EA cap D2 s2 L2 j j) ∧ Hid (Keeps (fun _ => False) w w2) ∧ w4.heap.size ≤ w2.heap.size) (fun _ iv _ => j - (intOf iv).toNat)
      case atStart => exact ⟨0, E, D, s, L, by omega, rfl, HIc, HO, HOn, HK, hwr⟩
      case round =>
        obtain ⟨q, E2, D2, s2, L2, hq, rfl, HU2, HO2, HOn2, HK2, hw2⟩ := hrel
        rename_i w2 _ _ _
        clear HO HOn HK HIc HDk
        by_cases hqj : q < j
        · have HQ : Hid (q + 1 ≤ j) := hqj
          obtain ⟨id, hid⟩ : ∃ id, I[q]? = some id := ⟨I[q]'(by rw [HIl.out]; exact hqj), by simp⟩
          have hdr : I.drop q = id :: I.drop (q + 1) := by
            rw [List.drop_eq_getElem_cons (by rw [HIl.out]; exact hqj)]
            congr 1
            have := (List.getElem?_eq_some_iff.1 hid).2
            exact this
          obtain ⟨x, hx, hu⟩ := usAt_has (E := E2) (j := id) (by rw [HU2.out, hdr]; simp)
          have HX := hide hx
          have HDr := hide hdr
          obtain ⟨C, rfl, _⟩ := HO2.out.some_ (by omega)
          have c0 := HO2.out.cell q (by omega)
          rw [List.getElem?_map, hid] at c0
          dsimp only [Option.map_some] at c0
          have hqI : (q : Int) < (j : Int) := by omega
          have hq0 : (0 : Int) ≤ (q : Int) := by omega
          clear hid hdr hx
          go_wp2_with fail
          trace "REL"
          refine (release1 _ B p a mb 40 4 40 E2 EA cap D2 s2 L2 j j HOn2.out (by omega) id x HX.out hu).mono ?_
          rintro e w3 ⟨rfl, D3, s3, L3, o3, k3⟩
          have HOn3 := hide o3
          have HO3 := hide (HO2.out.kept k3 (fun b hb => HO2.out.po hb))
          have HK3 := hide (PoS.to0 HK2.out k3 (by omega))
          have hw3 := Nat.le_trans hw2 k3.size
          clear o3 k3 c0
          go_wp2_with fail
          go_roundw
          case rel =>
            refine ⟨q + 1, _, D3, s3, L3, HQ.out, by go_num, hide (fun r => ?_), HO3, HOn3, HK3, hw3⟩
            rw [usAt_set HX.out]
            have h1 := HU2.out r
            rw [HDr.out, List.count_cons] at h1
            split
            · next e =>
              subst e
              have h2 := usAt_get HX.out
              simp at h1
              dsimp only
              omega
            · next e =>
              have e' : ¬ id = r := fun h => e h.symm
              simp [e'] at h1
              exact h1
          case measure => have := HQ.out; simp [intOf]; omega
        · obtain rfl : q = j := by omega
          have hqI : ¬ ((q : Int) < (q : Int)) := by omega
          have hc0 : cntU E2 = 0 := cntU_zero E2 (fun r => by rw [HU2.out, List.drop_eq_nil_of_le (by rw [HIl.out]; omega)]; rfl)
          have HC0 := hide hc0
          clear hc0
          go_wp2_with fail
          trace "USAGE2"
          refine (usage1 HOn2.out).mono ?_
          rintro e w9 ⟨C, mC, bC, rfl, hc9, hC9, k9⟩
          rw [HC0.out] at hc9
          have hc9 : w9.cell? ⟨C, 0, none⟩ = some (.int .i64 0) := hc9
          have kb := (Keeps.refl (fun _ => False) w9).alloc (.cells #[.slice (some ⟨C, 0, none⟩) 1 mC, .int .i64 bC, .int .i64 0] 46)
          have k10 := k9.trans kb
          have HX := hide (Blk.new w9 46 #[.slice (some ⟨C, 0, none⟩) 1 mC, .int .i64 bC, .int .i64 0])
          have HO10 := hide (HOn2.out.quiet k10)
          have K10 := hide (HK2.out.trans k10)
          have hc10 := kb.cell_some hc9 (fun h => h)
          have hC10 : C < (w9.alloc (.cells #[.slice (some ⟨C, 0, none⟩) 1 mC, .int .i64 bC, .int .i64 0] 46)).heap.size := Nat.lt_of_lt_of_le hC9 kb.size
          clear k9 kb k10 HOn2 HO2 HK2 hc9 hC9
          go_upto_region 24 with fail
          trace "R24"
          generalize w9.alloc _ = w10 at *
          generalize w9.heap.size = X at *
          obtain ⟨⟨x0, x1, x2⟩, _, hX⟩ := HX.out.three
          have HLq : Hid (Calls Try.prog 44 #[.pointer (some ⟨p, 0, none⟩)] w10 fun e w' => e = .returned (.int .i64 0) ∧ w' = w10) := hide (by
            have := plen_ok w10 B p a mb _ _ _ _ _ HO10.out.po HO10.out.pv.says
            rw [HC0.out] at this
            exact this)
          go_wp2_with fail
          trace "LEN2"
          refine HLq.out.mono ?_
          rintro e w11 ⟨rfl, rfl⟩
          go_wp2_with fail
          trace "AWAKE"
          refine (awake09 _).mono ?_
          rintro e w12 ⟨rfl, k12⟩
          have K12 := hide (K10.out.trans k12)
          clear k12
          go_wp2_with fail
          go_ret
          exact ⟨rfl, K12.out⟩
theorem walk (w : World) (A1 : Option Addr) (n1 c1 : Nat) (z1 : List Int) (r1 : Rd w w.heap.size A1 1 n1 (z1.map (.int .i64))) (b1 : ∀ z ∈ z1, -9223372036854775808 ≤ z ∧ z < 9223372036854775808) (s1 : n1 * 8 ≤ 140737488351232) (l1 : n1 ≤ c1) :
    Calls Try.prog 9 #[.slice A1 n1 c1] w fun e w' => e = .returned (.bool true) ∧ Below w.heap.size w w' :=
  (main w A1 n1 c1 z1 r1 b1 (by omega)).mono fun e w' ⟨he, hk⟩ => ⟨he, hk.done⟩
end poolEmpty
end Go.Proofs.Ytidobhflijdccaa
