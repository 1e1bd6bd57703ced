/-
  A pool in an arena of one class; law 9's example. No conditions beyond those of the statement.
-/
import Derived.Test.YtidobhflijdccaaPr
set_option linter.unusedVariables false
set_option linter.unusedSimpArgs false
namespace Go.Proofs.Ytidobhflijdccaa
open Go.RowKit Cfp
/-- a pool for n keys in an arena of one class, that is used by the pool alone -/
structure One (w : World) (B p a mb : Nat) (n sz cnt : Int) (E : List PE) (EA : Option Addr) (cap : Nat) (D : KD) (s : Ar) (L : Nat → List Nat) (M M2 : Int) : Prop where
  po : IsPo w B p a n E EA cap mb D
  ar : IsAr w B a s
  iv : Inv s L M2
  pv : PInv E s D M
  sh : shapeA s = [(sz, cnt)]
  lv : livesA s = [(cntU E : Int)]
  fa : s.faults = 0
  hB : B ≤ w.heap.size
theorem One.quiet {w w' : World} {B p a mb : Nat} {n sz cnt : Int} {E : List PE} {EA : Option Addr} {cap : Nat} {D : KD} {s : Ar} {L : Nat → List Nat} {M M2 : Int} (h : One w B p a mb n sz cnt E EA cap D s L M M2) (k : Keeps (fun _ => False) w w') : One w' B p a mb n sz cnt E EA cap D s L M M2 :=
  ⟨h.po.quiet k, h.ar.quiet k, h.iv, h.pv, h.sh, h.lv, h.fa, Nat.le_trans h.hB k.size⟩
/-- how Intern changes the entries -/
inductive Takes (E E' : List PE) (key : List UInt8) (id : Nat) : Prop
  | old (x : PE) (hx : E[id]? = some x) (hu : 0 < x.users) (hk : x.key = key) (he : E' = E.set id { x with users := x.users + 1 })
  | new (x : PE) (E1 : List PE) (h : Hd) (hno : NoKey E key) (hE1 : E1 = E ∨ E1 = E ++ [PE.zero]) (hx : E1[id]? = some x) (hu : x.users = 0) (h1 : 1 ≤ id) (hl : ∀ (j : Nat) (y : PE), 1 ≤ j → j < id → E[j]? = some y → y.users ≠ 0) (he : E' = E1.set id ⟨h, key, 1⟩)
/-- what Intern gives here -/
def Int1 (w : World) (B p a mb : Nat) (n sz cnt : Int) (E : List PE) (M M2 : Int) (key : List UInt8) (e : Ending) (w' : World) : Prop :=
  ∃ (E' : List PE) (EA' : Option Addr) (cap' : Nat) (D' : KD) (s' : Ar) (L' : Nat → List Nat) (id : Nat), e = .returned (.tuple #[.int .i64 id, .int .i64 0]) ∧ One w' B p a mb n sz cnt E' EA' cap' D' s' L' (M + 1) (M2 + 1) ∧ Takes E E' key id ∧ cntU E' ≤ cntU E + 1 ∧ Keeps (PoS B w) w w'
theorem one_cls {s : Ar} {sz cnt : Int} (h : shapeA s = [(sz, cnt)]) {i : Nat} {c : Cls} (hc : s.cls[i]? = some c) : i = 0 ∧ c.size = sz ∧ c.count = cnt := by
  have e : (shapeA s)[i]? = some (c.size, c.count) := by simp [shapeA, hc]
  rw [h] at e
  rcases i with _ | i
  · simp at e
    exact ⟨rfl, e.1.symm, e.2.symm⟩
  · simp at e
theorem one_live {s : Ar} {v : Int} (h : livesA s = [v]) {c : Cls} (hc : s.cls[0]? = some c) : c.live = v := by
  have e : (livesA s)[0]? = some c.live := by simp [livesA, hc]
  rw [h] at e
  simp at e
  exact e.symm
theorem one_has {s : Ar} {sz cnt : Int} (h : shapeA s = [(sz, cnt)]) : ∃ c, s.cls[0]? = some c := by
  have e : s.cls.length = 1 := by have := congrArg List.length h; simpa [shapeA] using this
  exact ⟨s.cls[0]'(by omega), by simp⟩
theorem intern1 (w : World) (B p a mb : Nat) (n sz cnt : Int) (E : List PE) (EA : Option Addr) (cap : Nat) (D : KD) (s : Ar) (L : Nat → List Nat) (M M2 : Int) (t : ByteArray) (h : One w B p a mb n sz cnt E EA cap D s L M M2)
    (hM : M ≤ 900000) (hM2 : 0 ≤ M2 ∧ M2 < 1000000000) (h1 : 1 ≤ t.size) (h2 : t.size ≤ 255) (h3 : (t.size : Int) ≤ sz) (hroom : (cntU E : Int) < n) (hn : n ≤ cnt) :
    Calls Try.prog 39 #[.pointer (some ⟨p, 0, none⟩), .string t] w (Int1 w B p a mb n sz cnt E M M2 t.data.toList) := by
  have hl : t.data.toList.length = t.size := by rw [Array.length_toList]; rfl
  refine (pintern_ok w B p a mb cap n E EA D s L M M2 t h.po h.ar h.iv h.pv hM hM2 (by omega) h.hB).mono ?_
  intro e w' hi
  rcases hi with ⟨c, he, hc, _, _, _⟩ | ⟨id, x, he, hx, hu, hk, h4, h5, h6, k⟩ | ⟨id, x, E1, EA1, cap1, i, k, age, s1, s2, L2, he, hk1, hk2, hno, hne, hE1, hx, hu, hid1, hleast, h4, h5, hV, g, wr, hage, hfit, v, kk⟩
  · exfalso
    rcases hc with ⟨h4, _⟩ | ⟨h4, _⟩ | ⟨_, _, _, h4, _⟩ | ⟨_, _, _, _, h4⟩
    · rw [h4] at hl; simp at hl; omega
    · omega
    · omega
    · rcases h4 with ⟨_, h5⟩ | ⟨_, i, c, hc, hf, hlv⟩
      · rcases h5 with h5 | h5
        · omega
        · obtain ⟨c, hc⟩ := one_has h.sh
          have h6 := h5 0 c hc
          have h7 := (one_cls h.sh hc).2.1
          omega
      · obtain ⟨h6, h7, h8⟩ := one_cls h.sh hc
        subst h6
        have := one_live h.lv hc
        omega
  · have hcu : cntU (E.set id { x with users := x.users + 1 }) = cntU E := by
      have := cntU_set E id x { x with users := x.users + 1 } hx
      simp only [hu, show (0 : Int) < x.users + 1 by omega, if_true] at this
      omega
    exact ⟨_, EA, cap, D, s, L, id, he, ⟨h4, h5, h.iv.more (by omega), h6, h.sh, by rw [hcu]; exact h.lv, h.fa, Nat.le_trans h.hB k.size⟩, .old x hx hu hk rfl, by omega, k⟩
  · have hE1c : cntU E1 = cntU E := by
      rcases hE1 with rfl | rfl
      · rfl
      · rw [cntU_app]; rfl
    have hcu : cntU (E1.set id ⟨(i, k, age), t.data.toList, 1⟩) = cntU E + 1 := by
      have := cntU_set E1 id x ⟨(i, k, age), t.data.toList, 1⟩ hx
      rw [if_neg (by omega), if_pos (by show (0 : Int) < 1; omega)] at this
      omega
    obtain ⟨c, hc, _, _⟩ := g.fit
    obtain ⟨rfl, _, _⟩ := one_cls h.sh hc
    have hlv2 : livesA s2 = [((cntU E + 1 : Nat) : Int)] := by
      rw [wr.lives, g.lives, h.lv]
      simp
    exact ⟨_, EA1, cap1, _, s2, L2, id, he, ⟨h4, h5, hV, v, by rw [wr.shape, g.shape, h.sh], by rw [hcu]; exact hlv2, by rw [wr.faults, g.faults, h.fa], Nat.le_trans h.hB kk.size⟩, .new x E1 _ hno hE1 hx hu hid1 hleast rfl, by omega, kk⟩
/-- what Release gives here -/
def Rel1 (w : World) (B p a mb : Nat) (n sz cnt : Int) (E : List PE) (EA : Option Addr) (cap : Nat) (M M2 : Int) (id : Nat) (x : PE) (e : Ending) (w' : World) : Prop :=
  e = .returned (.int .i64 0) ∧ ∃ (D' : KD) (s' : Ar) (L' : Nat → List Nat), One w' B p a mb n sz cnt (E.set id { x with users := x.users - 1 }) EA cap D' s' L' M M2 ∧ Keeps (PoS B w) w w'
theorem release1 (w : World) (B p a mb : Nat) (n sz cnt : Int) (E : List PE) (EA : Option Addr) (cap : Nat) (D : KD) (s : Ar) (L : Nat → List Nat) (M M2 : Int) (h : One w B p a mb n sz cnt E EA cap D s L M M2)
    (hM : M ≤ 900000) (id : Nat) (x : PE) (hx : E[id]? = some x) (hu : 0 < x.users) :
    Calls Try.prog 45 #[.pointer (some ⟨p, 0, none⟩), .int .i64 id] w (Rel1 w B p a mb n sz cnt E EA cap M M2 id x) := by
  refine (prelease_ok w B p a mb cap n E EA D s M M2 L h.po h.ar h.iv h.pv (by omega) id x hx hu (by have := h.pv.len; omega) h.hB).mono ?_
  rintro e w' ⟨he, E', D', s', L', h4, h5, h6, h7, hw, k⟩
  rcases hw with ⟨h8, rfl, rfl, rfl⟩ | ⟨h8, rfl, g, rfl⟩
  · have hcu : cntU (E.set id { x with users := x.users - 1 }) = cntU E := by
      have := cntU_set E id x { x with users := x.users - 1 } hx
      simp only [hu, show (0 : Int) < x.users - 1 by omega, if_true] at this
      omega
    exact ⟨he, _, s', L', ⟨h4, h5, h6, h7, h.sh, by rw [hcu]; exact h.lv, h.fa, Nat.le_trans h.hB k.size⟩, k⟩
  · have e0 : x.users - 1 = 0 := by omega
    have hcu : cntU (E.set id { x with users := 0 }) + 1 = cntU E := by
      have := cntU_set E id x { x with users := 0 } hx
      rw [if_pos hu, if_neg (by show ¬ (0 : Int) < 0; omega)] at this
      omega
    obtain ⟨c, hc⟩ : ∃ c, s.cls[x.h.1]? = some c := ⟨s.cls[x.h.1]'g.hi.1, by simp⟩
    obtain ⟨h9, _, _⟩ := one_cls h.sh hc
    have hlv2 : livesA s' = [(cntU (E.set id { x with users := 0 }) : Int)] := by
      rw [g.lives, h.lv, h9]
      simp
      omega
    refine ⟨he, D.del (.string x.key), s', L', ⟨?_, h5, h6, ?_, by rw [g.shape, h.sh], ?_, by rw [g.faults, h.fa], Nat.le_trans h.hB k.size⟩, k⟩
    · rw [e0]; exact h4
    · rw [e0]; exact h7
    · rw [e0]; exact hlv2
theorem One.new {w : World} {B p a mb g : Nat} {n sz cnt : Int} {CA : Option Addr} {c : Nat} (h1 : IsPo w B p a n [PE.zero] (some ⟨g, 0, none⟩) 1 mb (.map [])) (h2 : IsAr w B a (parAr [(sz, cnt)] 1 CA c)) (hE : classesE [(sz, cnt)] = 0) (hB : B ≤ w.heap.size) :
    One w B p a mb n sz cnt [PE.zero] (some ⟨g, 0, none⟩) 1 (.map []) (parAr [(sz, cnt)] 1 CA c) (fun _ => []) 0 0 :=
  ⟨h1, h2, inv_new _ hE CA c 1 rfl, PInv.new _, rfl, rfl, rfl, hB⟩
/-- the pool has another base -/
theorem IsPo.base {w : World} {B B' p a mb cap : Nat} {n : Int} {E : List PE} {EA : Option Addr} {D : KD} (h : IsPo w B p a n E EA cap mb D) (hb : B' ≤ B) : IsPo w B' p a n E EA cap mb D :=
  ⟨Nat.le_trans hb h.le, h.blk, h.own.base_le hb, Nat.le_trans hb h.lem, h.map⟩
theorem takes_1 {E' : List PE} {key : List UInt8} {id : Nat} (h : Takes [PE.zero] E' key id) : id = 1 ∧ ∃ q, E' = [PE.zero, ⟨q, key, 1⟩] := by
  rcases h with ⟨x, hx, hu, _, _⟩ | ⟨x, E1, q, hno, hE1, hx, hu, h1, hl, he⟩
  · rcases id with _ | id
    · simp at hx; subst hx; simp [PE.zero] at hu
    · simp at hx
  · rcases hE1 with rfl | rfl
    · rcases id with _ | id
      · omega
      · simp at hx
    · rcases id with _ | _ | id
      · omega
      · exact ⟨rfl, q, by rw [he]; rfl⟩
      · simp at hx
theorem takes_2 {E' : List PE} {k1 key : List UInt8} {q : Hd} {id : Nat} (hne : k1 ≠ key) (h : Takes [PE.zero, ⟨q, k1, 1⟩] E' key id) : id = 2 ∧ ∃ r, E' = [PE.zero, ⟨q, k1, 1⟩, ⟨r, key, 1⟩] := by
  rcases h with ⟨x, hx, hu, hk, _⟩ | ⟨x, E1, r, hno, hE1, hx, hu, h1, hl, he⟩
  · rcases id with _ | _ | id
    · simp at hx; subst hx; simp [PE.zero] at hu
    · simp at hx; subst hx; exact absurd hk hne
    · simp at hx
  · have h2 : id ≠ 1 := by
      rintro rfl
      rcases hE1 with rfl | rfl <;> · simp at hx; subst hx; simp at hu
    rcases hE1 with rfl | rfl
    · rcases id with _ | _ | id
      · omega
      · omega
      · simp at hx
    · rcases id with _ | _ | _ | id
      · omega
      · omega
      · exact ⟨rfl, r, by rw [he]; rfl⟩
      · simp at hx
theorem takes_3 {E' : List PE} {k1 k2 : List UInt8} {q r : Hd} {id : Nat} (hne : k1 ≠ k2) (h : Takes [PE.zero, ⟨q, k1, 1⟩, ⟨r, k2, 1⟩] E' k1 id) : id = 1 ∧ E' = [PE.zero, ⟨q, k1, 2⟩, ⟨r, k2, 1⟩] := by
  rcases h with ⟨x, hx, hu, hk, he⟩ | ⟨x, E1, r, hno, _⟩
  · rcases id with _ | _ | _ | id
    · simp at hx; subst hx; simp [PE.zero] at hu
    · simp at hx; subst hx; exact ⟨rfl, by rw [he]; rfl⟩
    · simp at hx; subst hx; exact absurd hk (fun e => hne e.symm)
    · simp at hx
  · exact absurd rfl (hno 1 ⟨q, k1, 1⟩ rfl (by show (0 : Int) < 1; omega))
theorem takes_4 {E' : List PE} {k1 k2 k3 : List UInt8} {q r : Hd} {id : Nat} (h23 : k2 ≠ k3) (h : Takes [PE.zero, ⟨q, k1, 0⟩, ⟨r, k2, 1⟩] E' k3 id) : id = 1 ∧ cntU E' = 2 := by
  rcases h with ⟨x, hx, hu, hk, he⟩ | ⟨x, E1, z, hno, hE1, hx, hu, h1, hl, he⟩
  · rcases id with _ | _ | _ | id
    · simp at hx; subst hx; simp [PE.zero] at hu
    · simp at hx; subst hx; simp at hu
    · simp at hx; subst hx; exact absurd hk h23
    · simp at hx
  · rcases id with _ | _ | id
    · omega
    · refine ⟨rfl, ?_⟩
      rw [he]
      rcases hE1 with rfl | rfl <;> simp [cntU, PE.zero]
    · exact absurd rfl (hl 1 ⟨q, k1, 0⟩ (by omega) (by omega) rfl)
def ex9 : List (Int × Int) := [(8, 4)]
set_option maxRecDepth 100000 in
set_option maxHeartbeats 1000000 in
theorem awake09 (w : World) : Calls Try.prog 41 #[] w fun e w' => e = .returned (.bool true) ∧ Keeps (fun _ => False) w w' := by
  have k1 := (Keeps.refl (fun _ => False) w).alloc (.cells #[.int .i64 8, .int .i64 4] 37)
  have r1 := (show Blk (w.alloc (.cells #[.int .i64 8, .int .i64 4] 37)) w.heap.size 37 (prs ex9).toArray from Blk.new _ _ _).rd (n := 1) (sz := 2) rfl
  have HN := hide (anew_ok ex9 rfl (some ⟨w.heap.size, 0, none⟩) 1 1 _ _ r1 (Nat.le_refl _))
  have K1 := hide k1
  clear k1 r1
  go_enter Try.func41, Try.ntmps41
  go_wp2_with fail
  trace "NEW"
  refine HN.out.mono ?_
  rintro e w1 ⟨a, CA, c, rfl, h1, k1⟩
  obtain ⟨B, hBe⟩ : ∃ B, B = (w.alloc (.cells #[.int .i64 8, .int .i64 4] 37)).heap.size := ⟨_, rfl⟩
  rw [← hBe] at h1
  have hwB : w.heap.size ≤ B := by rw [hBe]; exact K1.out.size
  have hB1 : B ≤ w1.heap.size := by rw [hBe]; exact k1.size
  have H1 := hide h1
  have K2 := hide (K1.out.trans k1)
  clear h1 k1 K1 hBe HN
  go_wp2_with fail
  trace "PNEW"
  refine (pnew_ok w1 a 3 (by omega) (by omega)).mono ?_
  rintro e w2 ⟨p, g, mb, rfl, h2, k2⟩
  have HO := hide (One.new (h2.base hB1) (H1.out.quiet k2) rfl (Nat.le_trans hB1 k2.size))
  have K3 := hide (K2.out.trans k2)
  clear h2 k2 K2 H1
  go_wp2_with fail
  trace "A"
  refine (intern1 w2 B p a mb 3 8 4 _ _ _ _ _ _ 0 0 ⟨#[97]⟩ HO.out (by omega) (by omega) (by decide) (by decide) (by decide) (by decide) (by omega)).mono ?_
  rintro e w3 ⟨E1, EA1, cap1, D1, s1, L1, id, rfl, o3, tk, _, k3⟩
  obtain ⟨rfl, q, rfl⟩ := takes_1 tk
  have HO3 := hide o3
  have K4 := hide (PoS.to0 K3.out k3 hwB)
  clear o3 tk k3 HO K3
  go_wp2_with fail
  trace "B"
  refine (intern1 w3 B p a mb 3 8 4 _ _ _ _ _ _ (0 + 1) (0 + 1) ⟨#[98]⟩ HO3.out (by omega) (by omega) (by decide) (by decide) (by decide) (by show ((1 : Nat) : Int) < 3; omega) (by omega)).mono ?_
  rintro e w4 ⟨E2, EA2, cap2, D2, s2, L2, id, rfl, o4, tk, _, k4⟩
  obtain ⟨rfl, r, rfl⟩ := takes_2 (by decide) tk
  have HO4 := hide o4
  have K5 := hide (PoS.to0 K4.out k4 hwB)
  clear o4 tk k4 HO3 K4
  go_wp2_with fail
  trace "A2"
  refine (intern1 w4 B p a mb 3 8 4 _ _ _ _ _ _ (0 + 1 + 1) (0 + 1 + 1) ⟨#[97]⟩ HO4.out (by omega) (by omega) (by decide) (by decide) (by decide) (by show ((2 : Nat) : Int) < 3; omega) (by omega)).mono ?_
  rintro e w5 ⟨E3, EA3, cap3, D3, s3, L3, id, rfl, o5, tk, _, k5⟩
  obtain ⟨rfl, rfl⟩ := takes_3 (by decide) tk
  have HO5 := hide o5
  have K6 := hide (PoS.to0 K5.out k5 hwB)
  clear o5 tk k5 HO4 K5
  go_wp2_with fail
  trace "R1"
  refine (release1 w5 B p a mb 3 8 4 _ _ _ _ _ _ _ _ HO5.out (by omega) 1 ⟨q, [97], 2⟩ rfl (by show (0 : Int) < 2; omega)).mono ?_
  rintro e w6 ⟨rfl, D6, s6, L6, o6, k6⟩
  have HO6 := hide (show One w6 B p a mb 3 8 4 [PE.zero, ⟨q, [97], 1⟩, ⟨r, [98], 1⟩] _ _ _ _ _ _ _ from o6)
  have K7 := hide (PoS.to0 K6.out k6 hwB)
  clear o6 k6 HO5 K6
  go_wp2_with fail
  trace "R2"
  refine (release1 w6 B p a mb 3 8 4 _ _ _ _ _ _ _ _ HO6.out (by omega) 1 ⟨q, [97], 1⟩ rfl (by show (0 : Int) < 1; omega)).mono ?_
  rintro e w7 ⟨rfl, D7, s7, L7, o7, k7⟩
  have HO7 := hide (show One w7 B p a mb 3 8 4 [PE.zero, ⟨q, [97], 0⟩, ⟨r, [98], 1⟩] _ _ _ _ _ _ _ from o7)
  have K8 := hide (PoS.to0 K7.out k7 hwB)
  clear o7 k7 HO6 K7
  go_wp2_with fail
  trace "C"
  refine (intern1 w7 B p a mb 3 8 4 _ _ _ _ _ _ _ _ ⟨#[99]⟩ HO7.out (by omega) (by omega) (by decide) (by decide) (by decide) (by show ((1 : Nat) : Int) < 3; omega) (by omega)).mono ?_
  rintro e w8 ⟨E8, EA8, cap8, D8, s8, L8, id, rfl, o8, tk, _, k8⟩
  obtain ⟨rfl, hc2⟩ := takes_4 (by decide) tk
  have K9 := hide (PoS.to0 K8.out k8 hwB)
  have HL := hide (plen_ok w8 B p a mb _ _ _ _ _ o8.po o8.pv.says)
  rw [hc2] at HL
  clear o8 tk k8 HO7 K8 hc2
  go_wp2_with fail
  trace "LEN"
  refine HL.out.mono ?_
  rintro e w9 ⟨rfl, rfl⟩
  go_wp2_with fail
  go_ret
  exact ⟨rfl, K9.out⟩
end Go.Proofs.Ytidobhflijdccaa
