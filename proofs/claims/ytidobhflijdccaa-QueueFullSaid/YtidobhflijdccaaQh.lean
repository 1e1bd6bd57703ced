/-
  QueueFull: a push for which the arena has no slot, or the pool no room, changes nothing. No conditions beyond those of the statement.
-/
import Derived.Test.YtidobhflijdccaaQi
import Derived.Test.YtidobhflijdccaaUs
set_option linter.unusedVariables false
set_option linter.unusedSimpArgs false
namespace Go.Proofs.Ytidobhflijdccaa
open Go.RowKit Cfp
def shF (m : Int) : List (Int × Int) := [(8, 50), (24, m)]
theorem shF_ok (m : Int) (h0 : 0 ≤ m) (h1 : m ≤ 5) : classesE (shF m) = 0 := by
  unfold classesE shF
  rw [if_neg (by simp)]
  simp only [cf_cons]
  rw [if_neg (by omega), if_neg (by omega), if_neg (by omega), if_neg (by omega)]
  rfl
/-- a refused push: there was no room -/
theorem push_full7 {m nk : Int} {W : List Wt} {lv : List Int} {key : List UInt8} {c : Int} (h : PushNo 10 nk (shF m) W lv key c) (h1 : 1 ≤ key.length) (h2 : key.length ≤ 8) : c = 7 := by
  have hno : ∀ {lv : List Int} {size : Int}, 1 ≤ size → size ≤ 24 → NoSlotL (shF m) lv size c → c = 7 := by
    rintro lv size q1 q2 (⟨_, h | h⟩ | ⟨h, _⟩)
    · omega
    · have := h (24, m) (by simp [shF]); dsimp only at this; omega
    · exact h
  rcases h with ⟨_, h⟩ | ⟨_, h, _⟩ | ⟨_, h, _⟩ | ⟨_, _, _, h | ⟨_, h⟩ | ⟨lv1, _, h⟩⟩
  · exact h
  · rw [h] at h1; simp at h1
  · omega
  · exact hno (by omega) (by omega) h
  · exact h
  · exact hno (by omega) (by omega) h
theorem bytesN_same {s s' : Ar} (h1 : shapeA s' = shapeA s) (h2 : livesA s' = livesA s) : ∀ k, bytesN s'.cls k = bytesN s.cls k
  | 0 => rfl
  | k + 1 => by
    have ih := bytesN_same h1 h2 k
    show bytesN s'.cls k + (s'.cls.getD k Cls.nil).live * (s'.cls.getD k Cls.nil).size = bytesN s.cls k + (s.cls.getD k Cls.nil).live * (s.cls.getD k Cls.nil).size
    rw [ih]
    have hs : (shapeA s')[k]? = (shapeA s)[k]? := by rw [h1]
    have hl : (livesA s')[k]? = (livesA s)[k]? := by rw [h2]
    simp only [shapeA, livesA, List.getElem?_map] at hs hl
    rcases e : s.cls[k]? with _ | c
    · rcases e' : s'.cls[k]? with _ | c'
      · simp [List.getD, e, e']
      · rw [e, e'] at hs; simp at hs
    · rcases e' : s'.cls[k]? with _ | c'
      · rw [e, e'] at hs; simp at hs
      · rw [e, e'] at hs hl
        simp at hs hl
        simp [List.getD, e, e', hs, hl]
/-- no more events than slots of their class -/
theorem QInv.most {m : Int} {W : List Wt} {E : List PE} {s : Ar} {L : Nat → List Nat} {D : KD} {M M2 : Int} (h : QInv (shF m) W E s L D M M2) : (W.length : Int) ≤ m := by
  have hl : s.cls.length = 2 := by have := congrArg List.length h.hsh; simpa [shapeA, shF] using this
  obtain ⟨c, hc⟩ : ∃ c, s.cls[1]? = some c := ⟨s.cls[1]'(by omega), by simp⟩
  have h1 := h.lv 1 (by simp [shF])
  have h2 : (livesA s).getD 1 0 = c.live := by simp [livesA, List.getD, hc]
  have h3 : fitS (shF m) 24 = 1 := rfl
  rw [h2, h3, if_pos rfl] at h1
  have h4 : (shapeA s)[1]? = some (c.size, c.count) := by simp [shapeA, hc]
  rw [h.hsh] at h4
  simp [shF] at h4
  have h5 := h.iv.lv 1 c hc
  have h6 := usedN_bd c.slots
  have h7 := h.iv.cb 1 c hc
  omega
/-- a queue of ten events in that memory -/
def QF (w : World) (B q a p mb G : Nat) (nk m : Int) (W : List Wt) (M : Int) : Prop := ∃ (R : List Wt) (E : List PE) (EA : Option Addr) (cap : Nat) (D : KD) (s : Ar) (L : Nat → List Nat), Qu w B q a p mb G 10 nk (shF m) W R E EA cap D s L M (2 * M)
theorem QF.quiet {w w' : World} {B q a p mb G : Nat} {nk m : Int} {W : List Wt} {M : Int} (h : QF w B q a p mb G nk m W M) (k : Keeps (fun _ => False) w w') : QF w' B q a p mb G nk m W M := by
  obtain ⟨R, E, EA, cap, D, s, L, h1⟩ := h
  exact ⟨R, E, EA, cap, D, s, L, h1.quiet k⟩
theorem Qu.deck {w w' : World} {B q a p mb G n Bd g : Nat} {nk : Int} {sh : List (Int × Int)} {W R : List Wt} {E : List PE} {EA : Option Addr} {cap : Nat} {D : KD} {s : Ar} {L : Nat → List Nat} {M M2 : Int} (hq : Qu w B q a p mb G n nk sh W R E EA cap D s L M M2) (d : IsDeck w Bd g) (k : Keeps (· = g) w w') : Qu w' B q a p mb G n nk sh W R E EA cap D s L M M2 := by
  obtain ⟨_, _, _, _, _, hblk, _⟩ := d
  obtain ⟨cs, hG⟩ := hq.qu.blkG
  exact ⟨hq.qu.kept k (fun e => by subst e; exact absurd (blk_type hblk hq.qu.blk) (by decide)) (fun e => by subst e; exact absurd (blk_type hblk hG) (by decide)), hq.po.kept k (fun b e => by subst e; exact .inr ⟨_, _, hblk, by decide, by decide⟩), hq.ar.kept k (fun b e => by subst e; exact .inr ⟨_, _, hblk, by decide, by decide, by decide, by decide⟩), hq.iv, Nat.le_trans hq.hB k.size, hq.kn, hq.n64⟩
theorem Own.deck {w : World} {base sz n c Bd g : Nat} {A : Option Addr} {xs : List Value} (h : Own w base 3 sz A n c xs) (d : IsDeck w Bd g) {b : Nat} (hb : Go.Proofs.Ytidobhflijdccaa.inB A b) : ¬ b = g := by
  rintro rfl
  obtain ⟨cs, h4⟩ := h.blk hb
  obtain ⟨_, _, _, _, _, hblk, _⟩ := d
  exact absurd (blk_type h4 hblk) (by decide)
theorem Own.quI {w : World} {base sz n c : Nat} {A : Option Addr} {xs : List Value} (h : Own w base 3 sz A n c xs) {B b : Nat} (hb : Go.Proofs.Ytidobhflijdccaa.inB A b) : ¬ QuS B w b := by
  obtain ⟨cs, h4⟩ := h.blk hb
  exact QuS.not h4 (by decide) (by decide) (by decide) (by decide) (by decide) (by decide) (by decide)
namespace queueFull
set_option maxRecDepth 100000 in
set_option maxHeartbeats 3000000 in
theorem main (w : World) (A1 : Option Addr) (n1 c1 : Nat) (zs : List Int) (hd : Rd w w.heap.size A1 1 n1 (zs.map (.int .i64))) (hz : ∀ z ∈ zs, -9223372036854775808 ≤ z ∧ z < 9223372036854775808) (hn1 : n1 ≤ 17592186043904) (x : Int) (x0 : 0 ≤ x) (x1 : x < 256) (y : Int) (y0 : 0 ≤ y) (y1 : y < 256) :
    Calls Try.prog 12 #[.slice A1 n1 c1, .int .u8 x, .int .u8 y] w fun e w' => e = .returned (.bool true) ∧ Keeps (fun _ => False) w w' := by
  have HD := hide hd
  clear hd
  have hm0 : 0 ≤ x % 6 ∧ x % 6 ≤ 5 := by omega
  have hn0 : 1 ≤ 1 + y % 5 ∧ 1 + y % 5 ≤ 5 := by omega
  have hxw : IntKind.i64.wrap x = x := IntWalk.i64_in _ (by omega)
  have hyw : IntKind.i64.wrap y = y := IntWalk.i64_in _ (by omega)
  have k1 := (Keeps.refl (fun _ => False) w).alloc (.cells #[.int .i64 8, .int .i64 50, .int .i64 24, .int .i64 (x % 6)] 37)
  have r1 := (show Blk (w.alloc (.cells #[.int .i64 8, .int .i64 50, .int .i64 24, .int .i64 (x % 6)] 37)) w.heap.size 37 (prs (shF (x % 6))).toArray from Blk.new _ _ _).rd (n := 2) (sz := 2) rfl
  have HN := hide (anew_ok (shF (x % 6)) (shF_ok _ hm0.1 hm0.2) (some ⟨w.heap.size, 0, none⟩) 2 2 _ _ r1 (Nat.le_refl _))
  have K1 := hide k1
  clear k1 r1
  go_enter Try.func12, Try.ntmps12
  go_wp2_with fail
  trace "NEW"
  refine HN.out.mono ?_
  rintro e w1 ⟨a, CA, c, rfl, h1, k1⟩
  obtain ⟨B, hBe⟩ : ∃ B, B = (w.alloc (.cells #[.int .i64 8, .int .i64 50, .int .i64 24, .int .i64 (x % 6)] 37)).heap.size := ⟨_, rfl⟩
  rw [← hBe] at h1
  have hwB : w.heap.size ≤ B := by rw [hBe]; exact K1.out.size
  have hB1 : B ≤ w1.heap.size := by rw [hBe]; exact k1.size
  have H1 := hide h1
  have K2 := hide (K1.out.trans k1)
  clear h1 k1 K1 hBe HN
  go_wp2_with fail
  trace "PNEW"
  refine (pnew_ok w1 a (1 + y % 5) hn0.1 (by omega)).mono ?_
  rintro e w2 ⟨p, g, mb, rfl, h2, k2⟩
  have HP2 := hide (show IsPo w2 B p a (1 + y % 5) [PE.zero] (some ⟨g, 0, none⟩) 1 mb (.map []) from ⟨Nat.le_trans hB1 h2.le, h2.blk, h2.own.base_le hB1, Nat.le_trans hB1 h2.lem, h2.map⟩)
  have HA2 := hide (H1.out.quiet k2)
  have K3 := hide (K2.out.trans k2)
  have hB2 := Nat.le_trans hB1 k2.size
  clear h2 k2 K2 H1
  go_wp2_with fail
  trace "QNEW"
  refine (qnew_ok w2 a p 10 (by omega) (by omega)).mono ?_
  rintro e w3 ⟨q, G, rfl, hq, k3⟩
  have HQ3 : Hid (QF w3 B q a p mb G (1 + y % 5) (x % 6) [] 0) := hide ⟨_, _, _, _, _, _, _, ⟨⟨Nat.le_trans hB2 hq.le, hq.blk, hq.own.base_le hB2⟩, HP2.out.quiet k3, HA2.out.quiet k3, QInv.zero (shF (x % 6)) (inv_new _ (shF_ok _ hm0.1 hm0.2) CA c 2 rfl) rfl (fun i => by rcases i with _ | _ | i <;> rfl) rfl, Nat.le_trans hB2 k3.size, by show ((0 : Nat) : Int) ≤ _; omega, by omega⟩⟩
  have K4 := hide (K3.out.trans k3)
  clear hq k3 HP2 HA2 K3
  go_wp2_with fail
  trace "DECK"
  refine (new_deck A1 n1 c1 zs w.heap.size w3 K4.out.size (HD.out.kept K4.out (fun _ _ h => h)) hz (by omega)).mono ?_
  rintro e w4 ⟨rfl, d4, k4⟩
  have HQ4 := hide (HQ3.out.quiet k4)
  have K5 := hide (K4.out.trans k4)
  have HD4 := hide d4
  have hw34 : w3.heap.size ≤ w4.heap.size := k4.size
  have hww3 : w.heap.size ≤ w3.heap.size := K4.out.size
  clear d4 k4 HQ3 K4 HD
  go_upto_region 8 with fail
  trace "LOOP"
  go_loopw [14, 15, 16, 17] (fun kv _ _ _ wr => ∃ (j : Nat) (W : List Wt), j ≤ 12 ∧ kv = .int .i64 j ∧ Hid (QF wr B q a p mb G (1 + y % 5) (x % 6) W j) ∧ Hid (IsDeck wr w.heap.size w3.heap.size) ∧ Hid (Keeps (fun _ => False) w wr) ∧ w3.heap.size ≤ wr.heap.size) (fun kv _ _ _ _ => 12 - (intOf kv).toNat)
  case atStart => exact ⟨0, [], by omega, rfl, HQ4, HD4, K5, hw34⟩
  case round =>
    obtain ⟨j, W, hj, rfl, HQ, HDk, HK, hwr⟩ := hrel
    clear HQ4 HD4 K5
    by_cases hlt : j < 12
    · have HLT : Hid (j + 1 ≤ 12) := hlt
      obtain ⟨R, E, EA, cap, D, s, L, hq⟩ := HQ.out
      have hcl : s.cls.length = 2 := by have := congrArg List.length hq.iv.hsh; simpa [shapeA, shF] using this
      obtain ⟨by_, hby⟩ : ∃ by_, by_ = bytesN s.cls 2 := ⟨_, rfl⟩
      have hU := usage_inv B a s L _ wr hq.ar hq.iv.iv
      rw [hcl, hq.iv.fa, ← hby] at hU
      have HU := hide hU
      have HQQ := hide hq
      have HCl := hide hcl
      have HBy := hide hby
      clear hU hq hcl hby HQ
      go_wp2_with fail
      trace "USAGE"
      refine HU.out.mono ?_
      rintro e w5 ⟨DU, mU, rfl, oU, k5⟩
      have HQ5 := hide (HQQ.out.quiet k5)
      have HL5 := hide (qlen_ok w5 B q a p G 10 W R HQ5.out.qu)
      obtain ⟨n, hn⟩ : ∃ n, n = W.length := ⟨_, rfl⟩
      rw [← hn] at HL5
      have HNN := hide hn
      have OU5 := hide oU
      have K6 := hide (HK.out.trans k5)
      have HD5 := hide (HDk.out.kept k5 (fun h => h) (fun _ _ h => h))
      have hw5 := Nat.le_trans hwr k5.size
      clear hn oU k5 HU HQQ HK HDk
      go_wp2_with fail
      trace "LEN"
      refine HL5.out.mono ?_
      rintro e w6 ⟨rfl, rfl⟩
      have HX := hide (Blk.new w6 46 #[.slice DU 2 mU, .int .i64 by_, .int .i64 0])
      have kb := (Keeps.refl (fun _ => False) w6).alloc (.cells #[.slice DU 2 mU, .int .i64 by_, .int .i64 0] 46)
      have HQ7 := hide (HQ5.out.quiet kb)
      have OU7 := hide (OU5.out.kept kb (fun _ _ h => h))
      have K7 := hide (K6.out.trans kb)
      have HD7 := hide (HD5.out.kept kb (fun h => h) (fun _ _ h => h))
      have hw7 := Nat.le_trans hw5 kb.size
      clear kb HQ5 OU5 K6 HD5 HL5
      go_upto_region 11 with fail
      trace "R11"
      generalize w6.alloc _ = w7 at *
      generalize w6.heap.size = X at *
      go_wp2_with fail
      trace "SHORT"
      refine (short_any _ _ w7 HD7.out).mono ?_
      rintro e w8 ⟨t, rfl, t2, t3, hd8, k8⟩
      have HQ8 := hide (HQ7.out.deck HD7.out k8)
      have OU8 := hide (OU7.out.kept k8 (fun b hb => OU7.out.deck HD7.out hb))
      have HX8 := hide (HX.out.kept k8 (fun e => by obtain ⟨_, _, _, _, _, hblk, _⟩ := HD7.out; rw [e] at HX; exact absurd (blk_type HX.out hblk) (by decide)))
      have HD8 := hide hd8
      have K8 := hide (K7.out.step k8 (fun b hb e => by omega))
      have hw8 := Nat.le_trans hw7 k8.size
      have htl : t.data.toList.length = t.size := by rw [Array.length_toList]; rfl
      have hlenW := HQ8.out.len
      have HTl := hide htl
      clear hd8 k8 HQ7 OU7 HX HD7 K7 htl
      by_cases hfull : W.length = 10
      · go_wp2_with fail
        trace "FULL"
        refine (push_full w8 B q a p mb G 10 _ _ W R E EA cap D s L _ _ t 1 0 1 HQ8.out hfull).mono ?_
        rintro e w9 ⟨rfl, k9⟩
        have h9 : Pushes w8 B q a p mb G 10 (1 + y % 5) (shF (x % 6)) W (livesA s) j (2 * j) t.data.toList 1 0 1 (.returned (.int .i64 7)) w9 := .no 7 R E EA cap D s L rfl ((HQ8.out.quiet k9).more (by omega) (by omega)) rfl (.inl ⟨hfull, rfl⟩) (QuS.zero k9)
        rcases h9 with ⟨cc, R9, E9, EA9, cap9, D9, s9, L9, he9, hq9, hlv9, hc9, k9'⟩ | ⟨hd9, id9, R9, E9, EA9, cap9, D9, s9, L9, he9, hl9, hk9, hq9, k9'⟩
        next =>
          have hcc := push_full7 hc9 (by have := HTl.out; omega) (by have := HTl.out; omega)
          subst hcc
          cases he9
          have HQ9 := hide hq9
          have OU9 := hide (OU8.out.kept k9' (fun b hb => OU8.out.quI hb))
          have HX9 := hide (HX8.out.kept k9' (QuS.not HX8.out (by decide) (by decide) (by decide) (by decide) (by decide) (by decide) (by decide)))
          have HD9 := hide (HD8.out.quS k9' hwB)
          have K9 := hide (QuS.to0 K8.out k9' hwB)
          have hw9 := Nat.le_trans hw8 k9'.size
          have HSame := hide (bytesN_same (hq9.iv.hsh.trans HQ8.out.iv.hsh.symm) hlv9)
          have HLv9 := hide hlv9
          (try clear k9)
          clear hc9 hq9 k9' hlv9 HQ8 OU8 HX8 HD8 K8
          go_upto_region 12 with fail
          trace "NO12"
          obtain ⟨⟨x0, x1, x2⟩, _, hX⟩ := HX9.out.three
          have HLn : Hid (∀ W', Keeps (fun _ => False) w9 W' → Calls Try.prog 56 #[.pointer (some ⟨q, 0, none⟩)] W' fun e w' => e = .returned (.int .i64 n) ∧ w' = W') := hide (fun W' k' => by
            have := qlen_ok W' B q a p G 10 W R9 (HQ9.out.qu.quiet k')
            rw [← HNN.out] at this
            exact this)
          have HUs : Hid (∀ W', Keeps (fun _ => False) w9 W' → Calls Try.prog 26 #[.pointer (some ⟨a, 0, none⟩)] W' fun e w' => ∃ D m, e = .returned (.agg #[.slice D 2 m, .int .i64 by_, .int .i64 0]) ∧ Own w' W'.heap.size 3 1 D 2 m ((livesA s).map (.int .i64)) ∧ Keeps (fun _ => False) w9 w') := hide (fun W' k' => by
            have hcl9 : s9.cls.length = 2 := by have := congrArg List.length HQ9.out.iv.hsh; simpa [shapeA, shF] using this
            have := usage_inv B a s9 L9 _ W' (HQ9.out.ar.quiet k') HQ9.out.iv.iv
            rw [hcl9, HQ9.out.iv.fa, HSame.out 2, ← HBy.out, HLv9.out] at this
            refine this.mono ?_
            rintro e w' ⟨D, m, he, ho, k⟩
            exact ⟨D, m, he, ho, k'.trans k⟩)
          have HSg : Hid (∀ W', Keeps (fun _ => False) w9 W' → (Keeps (fun _ => False) w9 W' ∧ W'.cell? ⟨X, 0, none⟩ = some (.slice DU 2 mU) ∧ W'.cell? ⟨X, 1, none⟩ = some (.int .i64 by_) ∧ W'.cell? ⟨X, 2, none⟩ = some (.int .i64 0))) := hide (fun W' kW => ⟨kW, kW.cell_some x0 (fun h => h), kW.cell_some x1 (fun h => h), kW.cell_some x2 (fun h => h)⟩)
          have hnn : ((n : Int) != (n : Int)) = false := by simp
          refine wp_region_held_drew (S := fun W' => Keeps (fun _ => False) w9 W' ∧ W'.cell? ⟨X, 0, none⟩ = some (.slice DU 2 mU) ∧ W'.cell? ⟨X, 1, none⟩ = some (.int .i64 by_) ∧ W'.cell? ⟨X, 2, none⟩ = some (.int .i64 0)) (by kernel_rfl) (HSg.out _ ((Keeps.refl _ _).drew)) (fun hHeld => ?_)
          refine wpAnyH_take (i := 0) (v := ?_) rfl (by kernel_rfl) (by kernel_rfl) (by kernel_rfl) (fun _ _ _ h => h) (Or.inl ⟨by first | kernel_rfl | rfl, ?_⟩) (by assumption) ?_; rotate_left; focus (intro w hSw; (try dsimp only at hSw); go_simp; try (with_reducible rfl)); (try simp only [Act.put, List.getElem_toArray, List.getElem_cons_succ, List.getElem_cons_zero, List.setIfInBounds_toArray, List.set_cons_zero, List.set_cons_succ])
          refine wpAnyH_take (i := 1) (v := ?_) rfl (by kernel_rfl) (by kernel_rfl) (by kernel_rfl) (fun _ _ _ h => h) (Or.inl ⟨by first | kernel_rfl | rfl, ?_⟩) (by assumption) ?_; rotate_left; focus (intro w hSw; (try dsimp only at hSw); go_simp; try (with_reducible rfl)); (try simp only [Act.put, List.getElem_toArray, List.getElem_cons_succ, List.getElem_cons_zero, List.setIfInBounds_toArray, List.set_cons_zero, List.set_cons_succ])
          refine wpAnyH_take (i := 2) (v := ?_) rfl (by kernel_rfl) (by kernel_rfl) (by kernel_rfl) (fun _ _ _ h => h) (Or.inl ⟨by first | kernel_rfl | rfl, ?_⟩) (by assumption) ?_; rotate_left; focus (intro w hSw; (try dsimp only at hSw); go_simp; try (with_reducible rfl)); (try simp only [Act.put, List.getElem_toArray, List.getElem_cons_succ, List.getElem_cons_zero, List.setIfInBounds_toArray, List.set_cons_zero, List.set_cons_succ])
          refine wpAnyH_take (i := 3) (v := ?_) rfl (by kernel_rfl) (by kernel_rfl) (by kernel_rfl) (fun _ _ _ h => h) (Or.inl ⟨by first | kernel_rfl | rfl, ?_⟩) (by assumption) ?_; rotate_left; focus (intro w hSw; (try dsimp only at hSw); go_simp; try (with_reducible rfl)); (try simp only [Act.put, List.getElem_toArray, List.getElem_cons_succ, List.getElem_cons_zero, List.setIfInBounds_toArray, List.set_cons_zero, List.set_cons_succ])
          refine wpAnyH_take (i := 4) (v := ?_) rfl (by kernel_rfl) (by kernel_rfl) (by kernel_rfl) (fun _ _ _ h => h) (Or.inl ⟨by first | kernel_rfl | rfl, ?_⟩) (by assumption) ?_; rotate_left; focus (intro w hSw; (try dsimp only at hSw); go_simp; try (with_reducible rfl)); (try simp only [Act.put, List.getElem_toArray, List.getElem_cons_succ, List.getElem_cons_zero, List.setIfInBounds_toArray, List.set_cons_zero, List.set_cons_succ])
          refine wpAnyH_take (i := 5) (v := ?_) rfl (by kernel_rfl) (by kernel_rfl) (by kernel_rfl) (fun _ _ _ h => h) (Or.inl ⟨by first | kernel_rfl | rfl, ?_⟩) (by assumption) ?_; rotate_left; focus (intro w hSw; (try dsimp only at hSw); go_simp; try (with_reducible rfl)); (try simp only [Act.put, List.getElem_toArray, List.getElem_cons_succ, List.getElem_cons_zero, List.setIfInBounds_toArray, List.set_cons_zero, List.set_cons_succ])
          refine wpAnyH_take (i := 6) (v := ?_) rfl (by kernel_rfl) (by kernel_rfl) (by kernel_rfl) (fun _ _ _ h => h) (Or.inl ⟨by first | kernel_rfl | rfl, ?_⟩) (by assumption) ?_; rotate_left; focus (intro w hSw; (try dsimp only at hSw); go_simp; try (with_reducible rfl)); (try simp only [Act.put, List.getElem_toArray, List.getElem_cons_succ, List.getElem_cons_zero, List.setIfInBounds_toArray, List.set_cons_zero, List.set_cons_succ])
          refine wpAnyH_take (i := 8) (v := ?_) rfl (by kernel_rfl) (by kernel_rfl) (by kernel_rfl) (fun _ _ _ h => h) (Or.inl ⟨by first | kernel_rfl | rfl, ?_⟩) (by assumption) ?_; rotate_left; focus (intro w hSw; (try dsimp only at hSw); go_simp; try (with_reducible rfl)); (try simp only [Act.put, List.getElem_toArray, List.getElem_cons_succ, List.getElem_cons_zero, List.setIfInBounds_toArray, List.set_cons_zero, List.set_cons_succ])
          refine wpAnyH_ready (rs := [7]) (by kernel_rfl) (by simp) ?_
          refine AllReadyH.cons rfl (fun K hK => ?_) AllReadyH.nil
          go_simp
          trace "LEN2"
          go_at_call 56
          refine (HLn.out _ ((Keeps.refl _ _).drew)).mono ?_
          rintro e w10 ⟨rfl, rfl⟩
          (try go_wp2_with fail)
          refine hK.out _ _ (HSg.out _ ((Keeps.refl _ _).drew)) (fun _ => ?_)
          clear hK K
          (try simp only [Act.put, List.getElem_toArray, List.getElem_cons_succ, List.getElem_cons_zero, List.setIfInBounds_toArray, List.set_cons_zero, List.set_cons_succ])
          refine wpAnyH_take (i := 9) (v := ?_) rfl (by kernel_rfl) (by kernel_rfl) (by kernel_rfl) (fun _ _ _ h => h) (Or.inl ⟨by first | kernel_rfl | rfl, ?_⟩) (by assumption) ?_; rotate_left; focus (intro w hSw; (try dsimp only at hSw); go_simp; try (with_reducible rfl)); (try simp only [Act.put, List.getElem_toArray, List.getElem_cons_succ, List.getElem_cons_zero, List.setIfInBounds_toArray, List.set_cons_zero, List.set_cons_succ])
          refine wpAnyH_take (i := 10) (v := ?_) rfl (by kernel_rfl) (by kernel_rfl) (by kernel_rfl) (fun _ _ _ h => h) (Or.inl ⟨by first | kernel_rfl | rfl, ?_⟩) (by assumption) ?_; rotate_left; focus (intro w hSw; (try dsimp only at hSw); go_simp; try (with_reducible rfl)); (try simp only [Act.put, List.getElem_toArray, List.getElem_cons_succ, List.getElem_cons_zero, List.setIfInBounds_toArray, List.set_cons_zero, List.set_cons_succ])
          refine wpAnyH_take (i := 11) (v := ?_) rfl (by kernel_rfl) (by kernel_rfl) (by kernel_rfl) (fun _ _ _ h => h) (Or.inl ⟨by first | kernel_rfl | rfl, ?_⟩) (by assumption) ?_; rotate_left; focus (intro w hSw; (try dsimp only at hSw); go_simp; try (with_reducible rfl)); (try simp only [Act.put, List.getElem_toArray, List.getElem_cons_succ, List.getElem_cons_zero, List.setIfInBounds_toArray, List.set_cons_zero, List.set_cons_succ])
          refine wpAnyH_take (i := 12) (v := ?_) rfl (by kernel_rfl) (by kernel_rfl) (by kernel_rfl) (fun _ _ _ h => h) (Or.inl ⟨by first | kernel_rfl | rfl, ?_⟩) (by assumption) ?_; rotate_left; focus (intro w hSw; (try dsimp only at hSw); go_simp; try (with_reducible rfl)); (try simp only [Act.put, List.getElem_toArray, List.getElem_cons_succ, List.getElem_cons_zero, List.setIfInBounds_toArray, List.set_cons_zero, List.set_cons_succ])
          refine wpAnyH_take (i := 14) (v := ?_) rfl (by kernel_rfl) (by kernel_rfl) (by kernel_rfl) (fun _ _ _ h => h) (Or.inl ⟨by first | kernel_rfl | rfl, ?_⟩) (by assumption) ?_; rotate_left; focus (intro w hSw; (try dsimp only at hSw); go_simp; try (with_reducible rfl)); (try simp only [Act.put, List.getElem_toArray, List.getElem_cons_succ, List.getElem_cons_zero, List.setIfInBounds_toArray, List.set_cons_zero, List.set_cons_succ])
          refine wpAnyH_ready (rs := [13]) (by kernel_rfl) (by simp) ?_
          refine AllReadyH.cons rfl (fun K hK => ?_) AllReadyH.nil
          go_simp
          trace "USAGE2"
          go_at_call 26
          refine (HUs.out _ ((Keeps.refl _ _).drew)).mono ?_
          rintro e w11 ⟨D2, m2, rfl, o2, k11⟩
          have R2 := hide (o2.rd (by omega))
          have R1 := hide ((OU9.out.kept k11 (fun _ _ h => h)).rd (by omega))
          have K11 := hide k11
          (try go_wp2_with fail)
          refine hK.out _ _ (HSg.out _ k11) (fun _ => ?_)
          clear hK K o2 k11
          (try simp only [Act.put, List.getElem_toArray, List.getElem_cons_succ, List.getElem_cons_zero, List.setIfInBounds_toArray, List.set_cons_zero, List.set_cons_succ])
          refine wpAnyH_ready (rs := [15]) (by kernel_rfl) (by simp) ?_
          refine AllReadyH.cons rfl (fun K hK => ?_) AllReadyH.nil
          go_simp
          trace "SAME"
          go_at_call 36
          refine (sameUsage_any (livesA s) D2 DU 2 m2 mU _ _ by_ 0 _ R2.out R1.out (by omega)).mono ?_
          rintro e w12 ⟨rfl, k12⟩
          have K12 := hide (K11.out.trans k12)
          (try go_wp2_with fail)
          refine hK.out _ _ (HSg.out _ K12.out) (fun _ => ?_)
          clear hK K k12 R1 R2 K11
          (try simp only [Act.put, List.getElem_toArray, List.getElem_cons_succ, List.getElem_cons_zero, List.setIfInBounds_toArray, List.set_cons_zero, List.set_cons_succ])
          refine wpAnyH_take (i := 16) (v := ?_) rfl (by kernel_rfl) (by kernel_rfl) (by kernel_rfl) (fun _ _ _ h => h) (Or.inl ⟨by first | kernel_rfl | rfl, ?_⟩) (by assumption) ?_; rotate_left; focus (intro w hSw; (try dsimp only at hSw); go_simp; try (with_reducible rfl)); (try simp only [Act.put, List.getElem_toArray, List.getElem_cons_succ, List.getElem_cons_zero, List.setIfInBounds_toArray, List.set_cons_zero, List.set_cons_succ])
          refine wpAnyH_take (i := 17) (v := ?_) rfl (by kernel_rfl) (by kernel_rfl) (by kernel_rfl) (fun _ _ _ h => h) (Or.inl ⟨by first | kernel_rfl | rfl, ?_⟩) (by assumption) ?_; rotate_left; focus (intro w hSw; (try dsimp only at hSw); go_simp; try (with_reducible rfl)); (try simp only [Act.put, List.getElem_toArray, List.getElem_cons_succ, List.getElem_cons_zero, List.setIfInBounds_toArray, List.set_cons_zero, List.set_cons_succ])
          refine wpAnyH_take (i := 18) (v := ?_) rfl (by kernel_rfl) (by kernel_rfl) (by kernel_rfl) (fun _ _ _ h => h) (Or.inl ⟨by first | kernel_rfl | rfl, ?_⟩) (by assumption) ?_; rotate_left; focus (intro w hSw; (try dsimp only at hSw); go_simp; try (with_reducible rfl)); (try simp only [Act.put, List.getElem_toArray, List.getElem_cons_succ, List.getElem_cons_zero, List.setIfInBounds_toArray, List.set_cons_zero, List.set_cons_succ])
          refine wpAnyH_done (by kernel_rfl) ?_ _
          (try simp only [Act.put, List.getElem_toArray, List.getElem_cons_succ, List.getElem_cons_zero, List.setIfInBounds_toArray, List.set_cons_zero, List.set_cons_succ])
          trace "NOEND"
          have HQ12 : Hid (QF w12 B q a p mb G (1 + y % 5) (x % 6) W ((j + 1 : Nat) : Int)) := hide ⟨R9, E9, EA9, cap9, D9, s9, L9, (HQ9.out.quiet K12.out).more (by omega) (by omega)⟩
          have HD12 := hide (HD9.out.kept K12.out (fun h => h) (fun _ _ h => h))
          have K13 := hide (K9.out.trans K12.out)
          have hw12 := Nat.le_trans hw9 K12.out.size
          clear HQ9 HD9 K9 K12 HSg HLn HUs OU9 HX9 x0 x1 x2 hX hHeld hnn
          go_wp2_with fail
          go_roundw
          case rel => exact ⟨j + 1, W, HLT.out, by go_num, HQ12, HD12, K13, hw12⟩
          case measure => have := HLT.out; simp [intOf]; omega
        next => cases he9
      · go_wp2_with fail
        trace "PUSH"
        refine (push_main w8 B q a p mb G 10 _ _ W R E EA cap D s L _ _ t 1 0 1 HQ8.out (by omega) (by omega) (by omega) (by omega) (by omega)).mono ?_
        intro e w9 h9
        rcases h9 with ⟨cc, R9, E9, EA9, cap9, D9, s9, L9, he9, hq9, hlv9, hc9, k9'⟩ | ⟨hd9, id9, R9, E9, EA9, cap9, D9, s9, L9, he9, hl9, hk9, hq9, k9'⟩
        next =>
          have hcc := push_full7 hc9 (by have := HTl.out; omega) (by have := HTl.out; omega)
          subst hcc
          cases he9
          have HQ9 := hide hq9
          have OU9 := hide (OU8.out.kept k9' (fun b hb => OU8.out.quI hb))
          have HX9 := hide (HX8.out.kept k9' (QuS.not HX8.out (by decide) (by decide) (by decide) (by decide) (by decide) (by decide) (by decide)))
          have HD9 := hide (HD8.out.quS k9' hwB)
          have K9 := hide (QuS.to0 K8.out k9' hwB)
          have hw9 := Nat.le_trans hw8 k9'.size
          have HSame := hide (bytesN_same (hq9.iv.hsh.trans HQ8.out.iv.hsh.symm) hlv9)
          have HLv9 := hide hlv9
          (try clear k9)
          clear hc9 hq9 k9' hlv9 HQ8 OU8 HX8 HD8 K8
          go_upto_region 12 with fail
          trace "NO12"
          obtain ⟨⟨x0, x1, x2⟩, _, hX⟩ := HX9.out.three
          have HLn : Hid (∀ W', Keeps (fun _ => False) w9 W' → Calls Try.prog 56 #[.pointer (some ⟨q, 0, none⟩)] W' fun e w' => e = .returned (.int .i64 n) ∧ w' = W') := hide (fun W' k' => by
            have := qlen_ok W' B q a p G 10 W R9 (HQ9.out.qu.quiet k')
            rw [← HNN.out] at this
            exact this)
          have HUs : Hid (∀ W', Keeps (fun _ => False) w9 W' → Calls Try.prog 26 #[.pointer (some ⟨a, 0, none⟩)] W' fun e w' => ∃ D m, e = .returned (.agg #[.slice D 2 m, .int .i64 by_, .int .i64 0]) ∧ Own w' W'.heap.size 3 1 D 2 m ((livesA s).map (.int .i64)) ∧ Keeps (fun _ => False) w9 w') := hide (fun W' k' => by
            have hcl9 : s9.cls.length = 2 := by have := congrArg List.length HQ9.out.iv.hsh; simpa [shapeA, shF] using this
            have := usage_inv B a s9 L9 _ W' (HQ9.out.ar.quiet k') HQ9.out.iv.iv
            rw [hcl9, HQ9.out.iv.fa, HSame.out 2, ← HBy.out, HLv9.out] at this
            refine this.mono ?_
            rintro e w' ⟨D, m, he, ho, k⟩
            exact ⟨D, m, he, ho, k'.trans k⟩)
          have HSg : Hid (∀ W', Keeps (fun _ => False) w9 W' → (Keeps (fun _ => False) w9 W' ∧ W'.cell? ⟨X, 0, none⟩ = some (.slice DU 2 mU) ∧ W'.cell? ⟨X, 1, none⟩ = some (.int .i64 by_) ∧ W'.cell? ⟨X, 2, none⟩ = some (.int .i64 0))) := hide (fun W' kW => ⟨kW, kW.cell_some x0 (fun h => h), kW.cell_some x1 (fun h => h), kW.cell_some x2 (fun h => h)⟩)
          have hnn : ((n : Int) != (n : Int)) = false := by simp
          refine wp_region_held_drew (S := fun W' => Keeps (fun _ => False) w9 W' ∧ W'.cell? ⟨X, 0, none⟩ = some (.slice DU 2 mU) ∧ W'.cell? ⟨X, 1, none⟩ = some (.int .i64 by_) ∧ W'.cell? ⟨X, 2, none⟩ = some (.int .i64 0)) (by kernel_rfl) (HSg.out _ ((Keeps.refl _ _).drew)) (fun hHeld => ?_)
          refine wpAnyH_take (i := 0) (v := ?_) rfl (by kernel_rfl) (by kernel_rfl) (by kernel_rfl) (fun _ _ _ h => h) (Or.inl ⟨by first | kernel_rfl | rfl, ?_⟩) (by assumption) ?_; rotate_left; focus (intro w hSw; (try dsimp only at hSw); go_simp; try (with_reducible rfl)); (try simp only [Act.put, List.getElem_toArray, List.getElem_cons_succ, List.getElem_cons_zero, List.setIfInBounds_toArray, List.set_cons_zero, List.set_cons_succ])
          refine wpAnyH_take (i := 1) (v := ?_) rfl (by kernel_rfl) (by kernel_rfl) (by kernel_rfl) (fun _ _ _ h => h) (Or.inl ⟨by first | kernel_rfl | rfl, ?_⟩) (by assumption) ?_; rotate_left; focus (intro w hSw; (try dsimp only at hSw); go_simp; try (with_reducible rfl)); (try simp only [Act.put, List.getElem_toArray, List.getElem_cons_succ, List.getElem_cons_zero, List.setIfInBounds_toArray, List.set_cons_zero, List.set_cons_succ])
          refine wpAnyH_take (i := 2) (v := ?_) rfl (by kernel_rfl) (by kernel_rfl) (by kernel_rfl) (fun _ _ _ h => h) (Or.inl ⟨by first | kernel_rfl | rfl, ?_⟩) (by assumption) ?_; rotate_left; focus (intro w hSw; (try dsimp only at hSw); go_simp; try (with_reducible rfl)); (try simp only [Act.put, List.getElem_toArray, List.getElem_cons_succ, List.getElem_cons_zero, List.setIfInBounds_toArray, List.set_cons_zero, List.set_cons_succ])
          refine wpAnyH_take (i := 3) (v := ?_) rfl (by kernel_rfl) (by kernel_rfl) (by kernel_rfl) (fun _ _ _ h => h) (Or.inl ⟨by first | kernel_rfl | rfl, ?_⟩) (by assumption) ?_; rotate_left; focus (intro w hSw; (try dsimp only at hSw); go_simp; try (with_reducible rfl)); (try simp only [Act.put, List.getElem_toArray, List.getElem_cons_succ, List.getElem_cons_zero, List.setIfInBounds_toArray, List.set_cons_zero, List.set_cons_succ])
          refine wpAnyH_take (i := 4) (v := ?_) rfl (by kernel_rfl) (by kernel_rfl) (by kernel_rfl) (fun _ _ _ h => h) (Or.inl ⟨by first | kernel_rfl | rfl, ?_⟩) (by assumption) ?_; rotate_left; focus (intro w hSw; (try dsimp only at hSw); go_simp; try (with_reducible rfl)); (try simp only [Act.put, List.getElem_toArray, List.getElem_cons_succ, List.getElem_cons_zero, List.setIfInBounds_toArray, List.set_cons_zero, List.set_cons_succ])
          refine wpAnyH_take (i := 5) (v := ?_) rfl (by kernel_rfl) (by kernel_rfl) (by kernel_rfl) (fun _ _ _ h => h) (Or.inl ⟨by first | kernel_rfl | rfl, ?_⟩) (by assumption) ?_; rotate_left; focus (intro w hSw; (try dsimp only at hSw); go_simp; try (with_reducible rfl)); (try simp only [Act.put, List.getElem_toArray, List.getElem_cons_succ, List.getElem_cons_zero, List.setIfInBounds_toArray, List.set_cons_zero, List.set_cons_succ])
          refine wpAnyH_take (i := 6) (v := ?_) rfl (by kernel_rfl) (by kernel_rfl) (by kernel_rfl) (fun _ _ _ h => h) (Or.inl ⟨by first | kernel_rfl | rfl, ?_⟩) (by assumption) ?_; rotate_left; focus (intro w hSw; (try dsimp only at hSw); go_simp; try (with_reducible rfl)); (try simp only [Act.put, List.getElem_toArray, List.getElem_cons_succ, List.getElem_cons_zero, List.setIfInBounds_toArray, List.set_cons_zero, List.set_cons_succ])
          refine wpAnyH_take (i := 8) (v := ?_) rfl (by kernel_rfl) (by kernel_rfl) (by kernel_rfl) (fun _ _ _ h => h) (Or.inl ⟨by first | kernel_rfl | rfl, ?_⟩) (by assumption) ?_; rotate_left; focus (intro w hSw; (try dsimp only at hSw); go_simp; try (with_reducible rfl)); (try simp only [Act.put, List.getElem_toArray, List.getElem_cons_succ, List.getElem_cons_zero, List.setIfInBounds_toArray, List.set_cons_zero, List.set_cons_succ])
          refine wpAnyH_ready (rs := [7]) (by kernel_rfl) (by simp) ?_
          refine AllReadyH.cons rfl (fun K hK => ?_) AllReadyH.nil
          go_simp
          trace "LEN2"
          go_at_call 56
          refine (HLn.out _ ((Keeps.refl _ _).drew)).mono ?_
          rintro e w10 ⟨rfl, rfl⟩
          (try go_wp2_with fail)
          refine hK.out _ _ (HSg.out _ ((Keeps.refl _ _).drew)) (fun _ => ?_)
          clear hK K
          (try simp only [Act.put, List.getElem_toArray, List.getElem_cons_succ, List.getElem_cons_zero, List.setIfInBounds_toArray, List.set_cons_zero, List.set_cons_succ])
          refine wpAnyH_take (i := 9) (v := ?_) rfl (by kernel_rfl) (by kernel_rfl) (by kernel_rfl) (fun _ _ _ h => h) (Or.inl ⟨by first | kernel_rfl | rfl, ?_⟩) (by assumption) ?_; rotate_left; focus (intro w hSw; (try dsimp only at hSw); go_simp; try (with_reducible rfl)); (try simp only [Act.put, List.getElem_toArray, List.getElem_cons_succ, List.getElem_cons_zero, List.setIfInBounds_toArray, List.set_cons_zero, List.set_cons_succ])
          refine wpAnyH_take (i := 10) (v := ?_) rfl (by kernel_rfl) (by kernel_rfl) (by kernel_rfl) (fun _ _ _ h => h) (Or.inl ⟨by first | kernel_rfl | rfl, ?_⟩) (by assumption) ?_; rotate_left; focus (intro w hSw; (try dsimp only at hSw); go_simp; try (with_reducible rfl)); (try simp only [Act.put, List.getElem_toArray, List.getElem_cons_succ, List.getElem_cons_zero, List.setIfInBounds_toArray, List.set_cons_zero, List.set_cons_succ])
          refine wpAnyH_take (i := 11) (v := ?_) rfl (by kernel_rfl) (by kernel_rfl) (by kernel_rfl) (fun _ _ _ h => h) (Or.inl ⟨by first | kernel_rfl | rfl, ?_⟩) (by assumption) ?_; rotate_left; focus (intro w hSw; (try dsimp only at hSw); go_simp; try (with_reducible rfl)); (try simp only [Act.put, List.getElem_toArray, List.getElem_cons_succ, List.getElem_cons_zero, List.setIfInBounds_toArray, List.set_cons_zero, List.set_cons_succ])
          refine wpAnyH_take (i := 12) (v := ?_) rfl (by kernel_rfl) (by kernel_rfl) (by kernel_rfl) (fun _ _ _ h => h) (Or.inl ⟨by first | kernel_rfl | rfl, ?_⟩) (by assumption) ?_; rotate_left; focus (intro w hSw; (try dsimp only at hSw); go_simp; try (with_reducible rfl)); (try simp only [Act.put, List.getElem_toArray, List.getElem_cons_succ, List.getElem_cons_zero, List.setIfInBounds_toArray, List.set_cons_zero, List.set_cons_succ])
          refine wpAnyH_take (i := 14) (v := ?_) rfl (by kernel_rfl) (by kernel_rfl) (by kernel_rfl) (fun _ _ _ h => h) (Or.inl ⟨by first | kernel_rfl | rfl, ?_⟩) (by assumption) ?_; rotate_left; focus (intro w hSw; (try dsimp only at hSw); go_simp; try (with_reducible rfl)); (try simp only [Act.put, List.getElem_toArray, List.getElem_cons_succ, List.getElem_cons_zero, List.setIfInBounds_toArray, List.set_cons_zero, List.set_cons_succ])
          refine wpAnyH_ready (rs := [13]) (by kernel_rfl) (by simp) ?_
          refine AllReadyH.cons rfl (fun K hK => ?_) AllReadyH.nil
          go_simp
          trace "USAGE2"
          go_at_call 26
          refine (HUs.out _ ((Keeps.refl _ _).drew)).mono ?_
          rintro e w11 ⟨D2, m2, rfl, o2, k11⟩
          have R2 := hide (o2.rd (by omega))
          have R1 := hide ((OU9.out.kept k11 (fun _ _ h => h)).rd (by omega))
          have K11 := hide k11
          (try go_wp2_with fail)
          refine hK.out _ _ (HSg.out _ k11) (fun _ => ?_)
          clear hK K o2 k11
          (try simp only [Act.put, List.getElem_toArray, List.getElem_cons_succ, List.getElem_cons_zero, List.setIfInBounds_toArray, List.set_cons_zero, List.set_cons_succ])
          refine wpAnyH_ready (rs := [15]) (by kernel_rfl) (by simp) ?_
          refine AllReadyH.cons rfl (fun K hK => ?_) AllReadyH.nil
          go_simp
          trace "SAME"
          go_at_call 36
          refine (sameUsage_any (livesA s) D2 DU 2 m2 mU _ _ by_ 0 _ R2.out R1.out (by omega)).mono ?_
          rintro e w12 ⟨rfl, k12⟩
          have K12 := hide (K11.out.trans k12)
          (try go_wp2_with fail)
          refine hK.out _ _ (HSg.out _ K12.out) (fun _ => ?_)
          clear hK K k12 R1 R2 K11
          (try simp only [Act.put, List.getElem_toArray, List.getElem_cons_succ, List.getElem_cons_zero, List.setIfInBounds_toArray, List.set_cons_zero, List.set_cons_succ])
          refine wpAnyH_take (i := 16) (v := ?_) rfl (by kernel_rfl) (by kernel_rfl) (by kernel_rfl) (fun _ _ _ h => h) (Or.inl ⟨by first | kernel_rfl | rfl, ?_⟩) (by assumption) ?_; rotate_left; focus (intro w hSw; (try dsimp only at hSw); go_simp; try (with_reducible rfl)); (try simp only [Act.put, List.getElem_toArray, List.getElem_cons_succ, List.getElem_cons_zero, List.setIfInBounds_toArray, List.set_cons_zero, List.set_cons_succ])
          refine wpAnyH_take (i := 17) (v := ?_) rfl (by kernel_rfl) (by kernel_rfl) (by kernel_rfl) (fun _ _ _ h => h) (Or.inl ⟨by first | kernel_rfl | rfl, ?_⟩) (by assumption) ?_; rotate_left; focus (intro w hSw; (try dsimp only at hSw); go_simp; try (with_reducible rfl)); (try simp only [Act.put, List.getElem_toArray, List.getElem_cons_succ, List.getElem_cons_zero, List.setIfInBounds_toArray, List.set_cons_zero, List.set_cons_succ])
          refine wpAnyH_take (i := 18) (v := ?_) rfl (by kernel_rfl) (by kernel_rfl) (by kernel_rfl) (fun _ _ _ h => h) (Or.inl ⟨by first | kernel_rfl | rfl, ?_⟩) (by assumption) ?_; rotate_left; focus (intro w hSw; (try dsimp only at hSw); go_simp; try (with_reducible rfl)); (try simp only [Act.put, List.getElem_toArray, List.getElem_cons_succ, List.getElem_cons_zero, List.setIfInBounds_toArray, List.set_cons_zero, List.set_cons_succ])
          refine wpAnyH_done (by kernel_rfl) ?_ _
          (try simp only [Act.put, List.getElem_toArray, List.getElem_cons_succ, List.getElem_cons_zero, List.setIfInBounds_toArray, List.set_cons_zero, List.set_cons_succ])
          trace "NOEND"
          have HQ12 : Hid (QF w12 B q a p mb G (1 + y % 5) (x % 6) W ((j + 1 : Nat) : Int)) := hide ⟨R9, E9, EA9, cap9, D9, s9, L9, (HQ9.out.quiet K12.out).more (by omega) (by omega)⟩
          have HD12 := hide (HD9.out.kept K12.out (fun h => h) (fun _ _ h => h))
          have K13 := hide (K9.out.trans K12.out)
          have hw12 := Nat.le_trans hw9 K12.out.size
          clear HQ9 HD9 K9 K12 HSg HLn HUs OU9 HX9 x0 x1 x2 hX hHeld hnn
          go_wp2_with fail
          go_roundw
          case rel => exact ⟨j + 1, W, HLT.out, by go_num, HQ12, HD12, K13, hw12⟩
          case measure => have := HLT.out; simp [intOf]; omega
        next =>
          cases he9
          have HQ9 : Hid (QF w9 B q a p mb G (1 + y % 5) (x % 6) (W ++ [⟨1, 0, 1, hd9, id9, t.data.toList⟩]) ((j + 1 : Nat) : Int)) := hide ⟨R9, E9, EA9, cap9, D9, s9, L9, hq9.more (by omega) (by omega)⟩
          have HD9 := hide (HD8.out.quS k9' hwB)
          have K9 := hide (QuS.to0 K8.out k9' hwB)
          have hw9 := Nat.le_trans hw8 k9'.size
          clear hq9 k9' HQ8 OU8 HX8 HD8 K8
          go_upto_region 12 with fail
          trace "OK12"
          go_quiet (fail)
          trace "OK12b"
          go_wp2_with fail
          go_roundw
          case rel => exact ⟨j + 1, _, HLT.out, by go_num, hide (HQ9.out.quiet ((Keeps.refl _ _).drewN _)), hide (HD9.out.kept ((Keeps.refl _ _).drewN _) (fun h => h) (fun _ _ h => h)), hide (K9.out.drewN _), hw9⟩
          case measure => have := HLT.out; simp [intOf]; omega
    · obtain rfl : j = 12 := by omega
      obtain ⟨R, E, EA, cap, D, s, L, hq⟩ := HQ.out
      have HL := hide (qlen_ok wr B q a p G 10 W R hq.qu)
      have HPl := hide (plen_ok wr B p a mb _ _ _ _ _ hq.po hq.iv.pv.says)
      have hmost := hq.iv.most
      have hkn := hq.kn
      obtain ⟨n, hn⟩ : ∃ n, n = W.length := ⟨_, rfl⟩
      obtain ⟨cn, hcn⟩ : ∃ cn, cn = cntU E := ⟨_, rfl⟩
      rw [← hn] at HL hmost
      rw [← hcn] at HPl hkn
      have t1 : decide ((n : Int) ≤ x % 6) = true := by simpa using hmost
      have t2 : decide ((cn : Int) ≤ 1 + y % 5) = true := by simpa using hkn
      clear hq HQ hn hcn HDk
      go_wp2_with fail
      trace "LEN"
      refine HL.out.mono ?_
      rintro e w6 ⟨rfl, rfl⟩
      go_wp2_with fail
      refine HPl.out.mono ?_
      rintro e w7 ⟨rfl, rfl⟩
      go_wp2_with fail
      trace "AWAKE"
      refine (awake27 _).mono ?_
      rintro e w12 ⟨rfl, k12⟩
      have K12 := hide (HK.out.trans k12)
      clear k12
      go_wp2_with fail
      go_ret
      exact ⟨rfl, K12.out⟩
theorem walk (w : World) (A1 : Option Addr) (n1 c1 : Nat) (z1 : List Int) (r1 : Rd w w.heap.size A1 1 n1 (z1.map (.int .i64))) (b1 : ∀ z ∈ z1, -9223372036854775808 ≤ z ∧ z < 9223372036854775808) (s1 : n1 * 8 ≤ 140737488351232) (l1 : n1 ≤ c1)
    (x : Int) (x0 : 0 ≤ x) (x1 : x < 256) (y : Int) (y0 : 0 ≤ y) (y1 : y < 256) :
    Calls Try.prog 12 #[.slice A1 n1 c1, .int .u8 x, .int .u8 y] w fun e w' => e = .returned (.bool true) ∧ Below w.heap.size w w' :=
  (main w A1 n1 c1 z1 r1 b1 (by omega) x x0 x1 y y0 y1).mono fun e w' ⟨he, hk⟩ => ⟨he, hk.done⟩
end queueFull
end Go.Proofs.Ytidobhflijdccaa
