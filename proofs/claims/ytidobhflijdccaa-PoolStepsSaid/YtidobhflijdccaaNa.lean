/-
  pool.Intern, with the exact answer of the arena. No conditions beyond those of the statement.
-/
import Derived.Test.YtidobhflijdccaaPr
import Derived.Test.YtidobhflijdccaaGA
set_option linter.unusedVariables false
set_option linter.unusedSimpArgs false
namespace Go.Proofs.Ytidobhflijdccaa
open Go.RowKit Cfp
open Go.Maps (string_keyed)
open Go.WideMaps
/-- what free gives -/
def FreesX (w : World) (B p a : Nat) (n : Int) (E : List PE) (mb : Nat) (D : KD) (e : Ending) (w' : World) : Prop :=
  ∃ (E' : List PE) (EA' : Option Addr) (cap' id : Nat) (x : PE), e = .returned (.int .i64 id) ∧ IsPo w' B p a n E' EA' cap' mb D ∧ (E' = E ∨ (E' = E ++ [PE.zero] ∧ id = E.length)) ∧ E'[id]? = some x ∧ x.users = 0 ∧ 1 ≤ id ∧ (∀ (j : Nat) (y : PE), 1 ≤ j → j < id → E[j]? = some y → y.users ≠ 0) ∧ Keeps (PoO B w) w w'
set_option maxRecDepth 100000 in
set_option maxHeartbeats 1000000 in
theorem pfree_x (w : World) (B p a : Nat) (n : Int) (E : List PE) (EA : Option Addr) (cap mb : Nat) (D : KD) (h : IsPo w B p a n E EA cap mb D) (hne : 0 < E.length) (hlen : E.length ≤ 1000000) (hB : B ≤ w.heap.size) :
    Calls Try.prog 71 #[.pointer (some ⟨p, 0, none⟩)] w (FreesX w B p a n E mb D) := by
  obtain ⟨g, rfl, hg1, hg2⟩ := h.own.some_ hne
  obtain ⟨⟨p0, p1, p2, p3⟩, hpw⟩ := h.cells
  have H := hide h
  obtain ⟨N, hN⟩ : ∃ N, N = E.length := ⟨_, rfl⟩
  rw [← hN] at p2 hne hlen
  have HN := hide hN
  clear h hN
  go_enter Try.func71, Try.ntmps71
  go_wp2_with fail
  trace "LOOP"
  go_loopw [3] (fun iv wr => ∃ (k nq : Nat), 1 ≤ k ∧ k ≤ N ∧ iv = .int .i64 k ∧ wr = w.drewN nq ∧ Hid (∀ (j : Nat) (y : PE), 1 ≤ j → j < k → E[j]? = some y → y.users ≠ 0)) (fun iv _ => N - (intOf iv).toNat)
  case atStart => exact ⟨1, 0, by omega, by omega, rfl, rfl, hide (fun j y h1 h2 => by omega)⟩
  case round =>
    obtain ⟨k, nq, hk1, hkN, rfl, rfl, HU⟩ := hrel
    by_cases hlt : k < N
    · obtain ⟨x, hx⟩ : ∃ x, E[k]? = some x := ⟨E[k]'(by rw [← HN.out]; exact hlt), by simp⟩
      obtain ⟨_, _, _, g3⟩ := peCs_at hx
      have q3 := H.out.own.cell (k * 4 + 3) (by have := HN.out; omega)
      rw [g3] at q3
      have hkI : (k : Int) < (N : Int) := by omega
      have hk0 : (0 : Int) ≤ (k : Int) := by omega
      have HX := hide hx
      by_cases hu : x.users = 0
      · have hub : (x.users == 0) = true := by simp [hu]
        clear hx g3 hu
        go_wp2_with fail
        go_ret
        have hu : x.users = 0 := by simpa using hub
        exact ⟨E, _, cap, k, x, rfl, H.out.quiet ((Keeps.refl (fun _ => False) w).drewN _), .inl rfl, HX.out, hu, hk1, HU.out, (Keeps.refl _ w).drewN _⟩
      · have hub : (x.users == 0) = false := by simpa using hu
        have HN2 : Hid (k + 1 ≤ N) := hlt
        clear hx g3 hu
        go_wp2_with fail
        go_roundw
        case rel =>
          refine ⟨k + 1, _, by omega, HN2.out, by go_num, rfl, hide (fun j y h1 h2 hy => ?_)⟩
          by_cases e : j = k
          · subst e
            rw [HX.out] at hy; injection hy with hy; subst hy
            simpa using hub
          · exact HU.out j y h1 (by omega) hy
        case measure => have := HN2.out; simp [intOf]; omega
    · obtain rfl : k = N := by omega
      have hkI : ¬ ((k : Int) < (k : Int)) := by omega
      have HO := hide (show Own w B 147 4 (some ⟨g, 0, none⟩) k cap (peCs E) from by rw [HN.out]; exact H.out.own)
      go_upto_region 6 with fail
      trace "R6"
      generalize hw1 : w.drewN nq = w1 at *
      have K1 : Hid (Keeps (fun _ => False) w w1) := hide (by rw [← hw1]; exact (Keeps.refl _ _).drewN _)
      clear hw1 p0 p1 p2 p3
      have H1 := hide (H.out.quiet K1.out)
      have HO1 := hide (HO.out.kept K1.out (fun _ _ h => h))
      obtain ⟨⟨p0, p1, p2, p3⟩, hpw1⟩ := H1.out.cells
      rw [← HN.out] at p2
      have hB1 : B ≤ w1.heap.size := Nat.le_trans hB K1.out.size
      go_upto_region 7 with (at_builtin; refine wpList_app _ elemPE rfl (.tmp 27) (.tmp 29) rfl B _ rfl (HO1.out.kept ((Keeps.refl (fun _ => False) w1).alloc _) (fun _ _ h => h)) _ (m := 1) [.int .i64 0, .int .i64 0, .int .i64 0, .int .i64 0] rfl (by exact Blk.rd (xs := [.int .i64 0, .int .i64 0, .int .i64 0, .int .i64 0]) (Blk.new_at _ _ _ _ (by simp)) rfl) (by simp [Value.oneCell']) (by simp only [maxLen]; omega) (by omega) (by simp; omega) ?_; intro A7 c7 w7 o7 k7 hA7; have hkA := (Keeps.refl (fun _ => False) w1).alloc (.cells #[.int .i64 0, .int .i64 0, .int .i64 0, .int .i64 0] 147); have hb7 := (H1.out.blk.kept hkA (fun h => h)).kept k7 (fun h => by obtain ⟨cs, h4⟩ := (HO1.out.kept hkA (fun _ _ h => h)).blk h; exact absurd (blk_type h4 (H1.out.blk.kept hkA (fun h => h))) (by decide)); have HB7 := hide hb7; have HM7 := hide ((H1.out.map.kept hkA (fun h => h)).kept k7 (fun h => by obtain ⟨cs, h4⟩ := (HO1.out.kept hkA (fun _ _ h => h)).blk h; exact (H1.out.map.kept hkA (fun h => h)).not h4)); have O7 := hide o7; have K7 := hide (Keeps.trans (Keeps.weak hkA (fun _ _ h => h.elim)) (k7.weak (S' := fun b => b = g) (fun b _ hb => ((inB_some _ _ _).1 hb).symm))); have f7 := hb7.frozen 2; have c7a := hb7.cell 2; have hp7 := hb7.lt; clear o7 k7 hA7 hkA hb7)
      trace "R7"
      have hfin := hide (IsPo.slice (E := E) (E' := E ++ [PE.zero]) (m := k + 1) H.out.le HB7.out (by simp [HN.out]) (by have := O7.out; rw [peCs_app]; exact this) H.out.lem HM7.out)
      have kfin := hide (Keeps.trans (K7.out.weak (S' := PoO B w1) (fun b hb e => by subst e; exact H1.out.inEO ⟨_, rfl, rfl⟩)) ((keepsOne w7 p 2 (.slice A7 (k + 1) c7)).weak (S' := PoO B w1) (fun b hb e => by subst e; exact H1.out.inSO)))
      go_wp2_with fail
      trace "R8"
      go_ret
      exact ⟨E ++ [PE.zero], A7, c7, k, PE.zero, rfl, hfin.out, .inr ⟨rfl, HN.out⟩, by have := HN.out; simp [this], rfl, hk1, HU.out, PoO.quiet K1.out kfin.out⟩
/-- the three answers of Alloc -/
theorem AllocX.three {w w' : World} {B a : Nat} {s : Ar} {L : Nat → List Nat} {M size : Int} {e : Ending} (h : AllocX w B a s L M size e w') (v : Inv s L M) (hM : M < 1000000000) :
    (e = .returned (.tuple #[.agg #[.int .i64 0, .int .i64 0, .int .i64 0], .int .i64 1]) ∧ IsAr w' B a s ∧ Keeps (fun _ => False) w w' ∧ AllocP s L size 0 0 0 1 s L) ∨
    (e = .returned (.tuple #[.agg #[.int .i64 0, .int .i64 0, .int .i64 0], .int .i64 7]) ∧ IsAr w' B a s ∧ Keeps (fun _ => False) w w' ∧ AllocP s L size 0 0 0 7 s L) ∨
    (∃ (i k : Nat) (g : Int) (s' : Ar) (L' : Nat → List Nat), e = .returned (.tuple #[.agg #[.int .i64 i, .int .i64 k, .int .i64 g], .int .i64 0]) ∧ IsAr w' B a s' ∧ Inv s' L' (M + 1) ∧ AllocP s L size i k g 0 s' L' ∧ Keeps (ArS B w) w w') := by
  cases h with
  | range he h k hr => exact .inl ⟨he, h, k, .range hr⟩
  | full i c he h k h1 hc hf hL hn => exact .inr (.inl ⟨he, h, k, .full i c h1 hc hf hL hn⟩)
  | fresh i c s' he h v g h1 hc hf hL hn hs k => exact .inr (.inr ⟨_, _, _, _, _, he, h, v, .fresh i c s' g h1 hc hf hL hn hs, k⟩)
  | again i c x j r s' he h v g h1 hc hf hL hx hu hs ha k => exact .inr (.inr ⟨_, _, _, _, _, he, h, v, .again i c x j r s' g h1 hc hf hL hx hu hs (by omega), k⟩)
/-- what Intern does, exactly -/
inductive InternX (w : World) (B p a mb cap : Nat) (n : Int) (E : List PE) (EA : Option Addr) (D : KD) (s : Ar) (L : Nat → List Nat) (M M2 : Int) (key : List UInt8) (e : Ending) (w' : World) : Prop
  | no (c : Int) (he : e = .returned (.tuple #[.int .i64 0, .int .i64 c])) (hc : (key = [] ∧ c = 3) ∨ (255 < key.length ∧ c = 4) ∨ (1 ≤ key.length ∧ key.length ≤ 255 ∧ NoKey E key ∧ (cntU E : Int) = n ∧ c = 7) ∨ (1 ≤ key.length ∧ key.length ≤ 255 ∧ NoKey E key ∧ (cntU E : Int) ≠ n ∧ c ≠ 0 ∧ AllocP s L key.length 0 0 0 c s L))
      (h : IsPo w' B p a n E EA cap mb D) (hA : IsAr w' B a s) (k : Keeps (fun _ => False) w w')
  | old (id : Nat) (x : PE) (he : e = .returned (.tuple #[.int .i64 id, .int .i64 0])) (hx : E[id]? = some x) (hu : 0 < x.users) (hk : x.key = key) (h : IsPo w' B p a n (E.set id { x with users := x.users + 1 }) EA cap mb D) (hA : IsAr w' B a s)
      (v : PInv (E.set id { x with users := x.users + 1 }) s D (M + 1)) (hk1 : 1 ≤ key.length) (hk2 : key.length ≤ 255) (k : Keeps (PoS B w) w w')
  | new (id : Nat) (x : PE) (E1 : List PE) (EA1 : Option Addr) (cap1 i k : Nat) (age : Int) (s1 s2 : Ar) (L2 : Nat → List Nat) (he : e = .returned (.tuple #[.int .i64 id, .int .i64 0])) (hk1 : 1 ≤ key.length) (hk2 : key.length ≤ 255) (hno : NoKey E key) (hn : (cntU E : Int) ≠ n) (hE1 : E1 = E ∨ (E1 = E ++ [PE.zero] ∧ id = E.length))
      (hx : E1[id]? = some x) (hu : x.users = 0) (h1 : 1 ≤ id) (hleast : ∀ (j : Nat) (y : PE), 1 ≤ j → j < id → E[j]? = some y → y.users ≠ 0)
      (h : IsPo w' B p a n (E1.set id ⟨(i, k, age), key, 1⟩) EA1 cap1 mb (D.put (.string key) (kval id))) (hA : IsAr w' B a s2) (hV : Inv s2 L2 (M2 + 1)) (al : AllocP s L key.length i k age 0 s1 L2) (st : Step s1 s2 i k (age, true, key) 0) (sl : ∀ q, slen s2 q = slen s1 q)
      (v : PInv (E1.set id ⟨(i, k, age), key, 1⟩) s2 (D.put (.string key) (kval id)) (M + 1)) (k : Keeps (PoS B w) w w')
set_option maxRecDepth 100000 in
set_option maxHeartbeats 2000000 in
theorem pintern_x (w : World) (B p a mb cap : Nat) (n : Int) (E : List PE) (EA : Option Addr) (D : KD) (s : Ar) (L : Nat → List Nat) (M M2 : Int) (t : ByteArray)
    (h : IsPo w B p a n E EA cap mb D) (hA : IsAr w B a s) (hV : Inv s L M2) (v : PInv E s D M) (hM : M ≤ 900000) (hM2 : 0 ≤ M2 ∧ M2 < 1000000000) (ht : t.size ≤ 140737488351232) (hB : B ≤ w.heap.size) :
    Calls Try.prog 39 #[.pointer (some ⟨p, 0, none⟩), .string t] w (InternX w B p a mb cap n E EA D s L M M2 t.data.toList) := by
  have hlen : t.data.toList.length = t.size := by rw [Array.length_toList]; rfl
  obtain ⟨⟨p0, p1, p2, p3⟩, hpw⟩ := h.cells
  have H := hide h
  have HA := hide hA
  have HP := hide v
  by_cases h0 : t.size = 0
  · have HK : Hid (t.data.toList = []) := hide (List.eq_nil_of_length_eq_zero (by omega))
    have hne : t.toList.isEmpty = true := by rw [ByteArray.toList_eq, HK.out]; rfl
    clear h hA hV v h0 ht
    go_enter Try.func39, Try.ntmps39
    go_wp2_with fail
    go_ret2
    exact .no 3 rfl (.inl ⟨HK.out, rfl⟩) H.out HA.out (Keeps.refl _ _)
  have hne : t.toList.isEmpty = false := by
    rw [ByteArray.toList_eq]
    rcases hx : t.data.toList with _ | _
    · rw [hx] at hlen; simp at hlen; omega
    · rfl
  by_cases h255 : 255 < t.size
  · have e1 : decide ((255 : Int) < (t.size : Int)) = true := by simp; omega
    have HL := hide (show 255 < t.data.toList.length by omega)
    clear h hA hV v h0 hlen
    go_enter Try.func39, Try.ntmps39
    go_wp2_with fail
    go_ret2
    exact .no 4 rfl (.inr (.inl ⟨HL.out, rfl⟩)) H.out HA.out (Keeps.refl _ _)
  have e1 : decide ((255 : Int) < (t.size : Int)) = false := by simp; omega
  have hEl : E.length ≤ 1000000 := by have := v.len; omega
  obtain ⟨l1, l2⟩ := look_ok h.map v.says t (by simp only [maxLen]; omega)
  rcases key_or E t.data.toList with hno | ⟨id, x, hx, hu, hk⟩
  · have hl := l2 hno
    have HNo := hide hno
    obtain ⟨cn, hcn⟩ : ∃ cn, cn = cntU E := ⟨_, rfl⟩
    have HSz := hide (v.says.sz.trans hcn.symm)
    have HCn := hide hcn
    have HV := hide hV
    have hE0 : 0 < E.length := by obtain ⟨y, h2, _⟩ := v.zero; exact (List.getElem?_eq_some_iff.1 h2).1
    obtain ⟨N, hN⟩ : ∃ N, N = E.length := ⟨_, rfl⟩
    rw [← hN] at p2 hEl hE0
    have HN := hide hN
    have ht1 : 1 ≤ t.size := by omega
    have HLen := hide hlen
    clear l1 l2 h hA hV v hno hcn hN hlen
    have HS0 : Hid (Keeps (fun _ => False) w w.drew ∧ w.drew.cell? ⟨p, 1, none⟩ = some (.int .i64 n) ∧ w.drew.cell? ⟨p, 3, none⟩ = some (.map (some mb))) := hide ⟨(Keeps.refl _ _).drew, p1, p3⟩
    have HMd : Hid (w.drew.ownsMap Try.prog 9 (plainElem Try.prog 3) mb (Maps.size D) D) := hide (by have := H.out.map; exact this)
    by_cases hfull : (cn : Int) = n
    · have hfb : ((cn : Int) == n) = true := by simpa using hfull
      have HF := hide hfull
      clear hfull
      go_enter Try.func39, Try.ntmps39
      go_upto_region 11 with fail
      trace "R11"
      refine wp_region_held_drew (S := fun w' => Keeps (fun _ => False) w w' ∧ w'.cell? ⟨p, 1, none⟩ = some (.int .i64 n) ∧ w'.cell? ⟨p, 3, none⟩ = some (.map (some mb))) (by kernel_rfl) HS0.out (fun hHeld => ?_)
      refine wpAnyH_take (i := 0) (v := ?_) rfl (by kernel_rfl) (by kernel_rfl) (by kernel_rfl) (fun _ _ _ h => h) (Or.inl ⟨by first | kernel_rfl | rfl, ?_⟩) (by assumption) ?_; rotate_left; focus (intro w hSw; (try dsimp only at hSw); go_simp; try (with_reducible rfl)); (try simp only [Act.put, List.getElem_toArray, List.getElem_cons_succ, List.getElem_cons_zero, List.setIfInBounds_toArray, List.set_cons_zero, List.set_cons_succ])
      refine wpAnyH_take (i := 1) (v := ?_) rfl (by kernel_rfl) (by kernel_rfl) (by kernel_rfl) (fun _ _ _ h => h) (Or.inl ⟨by first | kernel_rfl | rfl, ?_⟩) (by assumption) ?_; rotate_left; focus (intro w hSw; (try dsimp only at hSw); go_simp; try (with_reducible rfl)); (try simp only [Act.put, List.getElem_toArray, List.getElem_cons_succ, List.getElem_cons_zero, List.setIfInBounds_toArray, List.set_cons_zero, List.set_cons_succ])
      refine wpAnyH_take (i := 2) (v := ?_) rfl (by kernel_rfl) (by kernel_rfl) (by kernel_rfl) (fun _ _ _ h => h) (Or.inl ⟨by first | kernel_rfl | rfl, ?_⟩) (by assumption) ?_; rotate_left; focus (intro w hSw; (try dsimp only at hSw); go_simp; try (with_reducible rfl)); (try simp only [Act.put, List.getElem_toArray, List.getElem_cons_succ, List.getElem_cons_zero, List.setIfInBounds_toArray, List.set_cons_zero, List.set_cons_succ])
      refine wpAnyH_take (i := 3) (v := ?_) rfl (by kernel_rfl) (by kernel_rfl) (by kernel_rfl) (fun _ _ _ h => h) (Or.inl ⟨by first | kernel_rfl | rfl, ?_⟩) (by assumption) ?_; rotate_left; focus (intro w hSw; (try dsimp only at hSw); go_simp; try (with_reducible rfl)); (try simp only [Act.put, List.getElem_toArray, List.getElem_cons_succ, List.getElem_cons_zero, List.setIfInBounds_toArray, List.set_cons_zero, List.set_cons_succ])
      refine wpAnyH_take (i := 5) (v := ?_) rfl (by kernel_rfl) (by kernel_rfl) (by kernel_rfl) (fun _ _ _ h => h) (Or.inl ⟨by first | kernel_rfl | rfl, ?_⟩) (by assumption) ?_; rotate_left; focus (intro w hSw; (try dsimp only at hSw); go_simp; try (with_reducible rfl)); (try simp only [Act.put, List.getElem_toArray, List.getElem_cons_succ, List.getElem_cons_zero, List.setIfInBounds_toArray, List.set_cons_zero, List.set_cons_succ])
      refine wpAnyH_take (i := 6) (v := ?_) rfl (by kernel_rfl) (by kernel_rfl) (by kernel_rfl) (fun _ _ _ h => h) (Or.inl ⟨by first | kernel_rfl | rfl, ?_⟩) (by assumption) ?_; rotate_left; focus (intro w hSw; (try dsimp only at hSw); go_simp; try (with_reducible rfl)); (try simp only [Act.put, List.getElem_toArray, List.getElem_cons_succ, List.getElem_cons_zero, List.setIfInBounds_toArray, List.set_cons_zero, List.set_cons_succ])
      refine wpAnyH_take (i := 7) (v := ?_) rfl (by kernel_rfl) (by kernel_rfl) (by kernel_rfl) (fun _ _ _ h => h) (Or.inl ⟨by first | kernel_rfl | rfl, ?_⟩) (by assumption) ?_; rotate_left; focus (intro w hSw; (try dsimp only at hSw); go_simp; try (with_reducible rfl)); (try simp only [Act.put, List.getElem_toArray, List.getElem_cons_succ, List.getElem_cons_zero, List.setIfInBounds_toArray, List.set_cons_zero, List.set_cons_succ])
      refine wpAnyH_take (i := 8) (v := ?_) rfl (by kernel_rfl) (by kernel_rfl) (by kernel_rfl) (fun _ _ _ h => h) (Or.inl ⟨by first | kernel_rfl | rfl, ?_⟩) (by assumption) ?_; rotate_left; focus (intro w hSw; (try dsimp only at hSw); go_simp; try (with_reducible rfl)); (try simp only [Act.put, List.getElem_toArray, List.getElem_cons_succ, List.getElem_cons_zero, List.setIfInBounds_toArray, List.set_cons_zero, List.set_cons_succ])
      refine wpAnyH_ready (rs := [4]) (by kernel_rfl) (by simp) ?_
      refine AllReadyH.cons rfl (fun K hK => ?_) AllReadyH.nil
      refine step_len_map (P := Try.prog) (R := plainElem Try.prog 3) (D := D) rfl (.tmp 47) 142 rfl 9 3 ?ht mb (Maps.size D) ?hm ?hown ?_
      case ht => exact Try.underlying142
      case hm => simp [Act.eval, Act.put]
      case hown => exact HMd.out
      trace "LEN"
      rw [HSz.out]
      refine hK.out _ _ HS0.out (fun _ => ?_)
      clear hK K
      (try simp only [Act.put, List.getElem_toArray, List.getElem_cons_succ, List.getElem_cons_zero, List.setIfInBounds_toArray, List.set_cons_zero, List.set_cons_succ])
      refine wpAnyH_take (i := 9) (v := ?_) rfl (by kernel_rfl) (by kernel_rfl) (by kernel_rfl) (fun _ _ _ h => h) (Or.inl ⟨by first | kernel_rfl | rfl, ?_⟩) (by assumption) ?_; rotate_left; focus (intro w hSw; (try dsimp only at hSw); go_simp; try (with_reducible rfl)); (try simp only [Act.put, List.getElem_toArray, List.getElem_cons_succ, List.getElem_cons_zero, List.setIfInBounds_toArray, List.set_cons_zero, List.set_cons_succ])
      refine wpAnyH_done (by kernel_rfl) ?_ _
      (try simp only [Act.put, List.getElem_toArray, List.getElem_cons_succ, List.getElem_cons_zero, List.setIfInBounds_toArray, List.set_cons_zero, List.set_cons_succ])
      trace "R11b"
      go_wp2_with fail
      trace "FULL"
      go_ret2
      exact .no 7 rfl (.inr (.inr (.inl ⟨by have := HLen.out; omega, by have := HLen.out; omega, HNo.out, by rw [← HCn.out]; exact HF.out, rfl⟩))) (H.out.quiet HS0.out.1) (HA.out.quiet HS0.out.1) HS0.out.1
    · have hfb : ((cn : Int) == n) = false := by simpa using hfull
      have HF := hide hfull
      clear hfull
      go_enter Try.func39, Try.ntmps39
      go_upto_region 11 with fail
      trace "R11"
      refine wp_region_held_drew (S := fun w' => Keeps (fun _ => False) w w' ∧ w'.cell? ⟨p, 1, none⟩ = some (.int .i64 n) ∧ w'.cell? ⟨p, 3, none⟩ = some (.map (some mb))) (by kernel_rfl) HS0.out (fun hHeld => ?_)
      refine wpAnyH_take (i := 0) (v := ?_) rfl (by kernel_rfl) (by kernel_rfl) (by kernel_rfl) (fun _ _ _ h => h) (Or.inl ⟨by first | kernel_rfl | rfl, ?_⟩) (by assumption) ?_; rotate_left; focus (intro w hSw; (try dsimp only at hSw); go_simp; try (with_reducible rfl)); (try simp only [Act.put, List.getElem_toArray, List.getElem_cons_succ, List.getElem_cons_zero, List.setIfInBounds_toArray, List.set_cons_zero, List.set_cons_succ])
      refine wpAnyH_take (i := 1) (v := ?_) rfl (by kernel_rfl) (by kernel_rfl) (by kernel_rfl) (fun _ _ _ h => h) (Or.inl ⟨by first | kernel_rfl | rfl, ?_⟩) (by assumption) ?_; rotate_left; focus (intro w hSw; (try dsimp only at hSw); go_simp; try (with_reducible rfl)); (try simp only [Act.put, List.getElem_toArray, List.getElem_cons_succ, List.getElem_cons_zero, List.setIfInBounds_toArray, List.set_cons_zero, List.set_cons_succ])
      refine wpAnyH_take (i := 2) (v := ?_) rfl (by kernel_rfl) (by kernel_rfl) (by kernel_rfl) (fun _ _ _ h => h) (Or.inl ⟨by first | kernel_rfl | rfl, ?_⟩) (by assumption) ?_; rotate_left; focus (intro w hSw; (try dsimp only at hSw); go_simp; try (with_reducible rfl)); (try simp only [Act.put, List.getElem_toArray, List.getElem_cons_succ, List.getElem_cons_zero, List.setIfInBounds_toArray, List.set_cons_zero, List.set_cons_succ])
      refine wpAnyH_take (i := 3) (v := ?_) rfl (by kernel_rfl) (by kernel_rfl) (by kernel_rfl) (fun _ _ _ h => h) (Or.inl ⟨by first | kernel_rfl | rfl, ?_⟩) (by assumption) ?_; rotate_left; focus (intro w hSw; (try dsimp only at hSw); go_simp; try (with_reducible rfl)); (try simp only [Act.put, List.getElem_toArray, List.getElem_cons_succ, List.getElem_cons_zero, List.setIfInBounds_toArray, List.set_cons_zero, List.set_cons_succ])
      refine wpAnyH_take (i := 5) (v := ?_) rfl (by kernel_rfl) (by kernel_rfl) (by kernel_rfl) (fun _ _ _ h => h) (Or.inl ⟨by first | kernel_rfl | rfl, ?_⟩) (by assumption) ?_; rotate_left; focus (intro w hSw; (try dsimp only at hSw); go_simp; try (with_reducible rfl)); (try simp only [Act.put, List.getElem_toArray, List.getElem_cons_succ, List.getElem_cons_zero, List.setIfInBounds_toArray, List.set_cons_zero, List.set_cons_succ])
      refine wpAnyH_take (i := 6) (v := ?_) rfl (by kernel_rfl) (by kernel_rfl) (by kernel_rfl) (fun _ _ _ h => h) (Or.inl ⟨by first | kernel_rfl | rfl, ?_⟩) (by assumption) ?_; rotate_left; focus (intro w hSw; (try dsimp only at hSw); go_simp; try (with_reducible rfl)); (try simp only [Act.put, List.getElem_toArray, List.getElem_cons_succ, List.getElem_cons_zero, List.setIfInBounds_toArray, List.set_cons_zero, List.set_cons_succ])
      refine wpAnyH_take (i := 7) (v := ?_) rfl (by kernel_rfl) (by kernel_rfl) (by kernel_rfl) (fun _ _ _ h => h) (Or.inl ⟨by first | kernel_rfl | rfl, ?_⟩) (by assumption) ?_; rotate_left; focus (intro w hSw; (try dsimp only at hSw); go_simp; try (with_reducible rfl)); (try simp only [Act.put, List.getElem_toArray, List.getElem_cons_succ, List.getElem_cons_zero, List.setIfInBounds_toArray, List.set_cons_zero, List.set_cons_succ])
      refine wpAnyH_take (i := 8) (v := ?_) rfl (by kernel_rfl) (by kernel_rfl) (by kernel_rfl) (fun _ _ _ h => h) (Or.inl ⟨by first | kernel_rfl | rfl, ?_⟩) (by assumption) ?_; rotate_left; focus (intro w hSw; (try dsimp only at hSw); go_simp; try (with_reducible rfl)); (try simp only [Act.put, List.getElem_toArray, List.getElem_cons_succ, List.getElem_cons_zero, List.setIfInBounds_toArray, List.set_cons_zero, List.set_cons_succ])
      refine wpAnyH_ready (rs := [4]) (by kernel_rfl) (by simp) ?_
      refine AllReadyH.cons rfl (fun K hK => ?_) AllReadyH.nil
      refine step_len_map (P := Try.prog) (R := plainElem Try.prog 3) (D := D) rfl (.tmp 47) 142 rfl 9 3 ?ht mb (Maps.size D) ?hm ?hown ?_
      case ht => exact Try.underlying142
      case hm => simp [Act.eval, Act.put]
      case hown => exact HMd.out
      trace "LEN"
      rw [HSz.out]
      refine hK.out _ _ HS0.out (fun _ => ?_)
      clear hK K
      (try simp only [Act.put, List.getElem_toArray, List.getElem_cons_succ, List.getElem_cons_zero, List.setIfInBounds_toArray, List.set_cons_zero, List.set_cons_succ])
      refine wpAnyH_take (i := 9) (v := ?_) rfl (by kernel_rfl) (by kernel_rfl) (by kernel_rfl) (fun _ _ _ h => h) (Or.inl ⟨by first | kernel_rfl | rfl, ?_⟩) (by assumption) ?_; rotate_left; focus (intro w hSw; (try dsimp only at hSw); go_simp; try (with_reducible rfl)); (try simp only [Act.put, List.getElem_toArray, List.getElem_cons_succ, List.getElem_cons_zero, List.setIfInBounds_toArray, List.set_cons_zero, List.set_cons_succ])
      refine wpAnyH_done (by kernel_rfl) ?_ _
      (try simp only [Act.put, List.getElem_toArray, List.getElem_cons_succ, List.getElem_cons_zero, List.setIfInBounds_toArray, List.set_cons_zero, List.set_cons_succ])
      trace "R11b"
      go_upto_region 13 with fail
      trace "R13"
      generalize hwq : w.drew = w1 at *
      have K1 : Hid (Keeps (fun _ => False) w w1) := hide HS0.out.1
      clear HS0
      have hB1 : B ≤ w1.heap.size := Nat.le_trans hB K1.out.size
      have H1 := hide (H.out.quiet K1.out)
      have HA1 := hide (HA.out.quiet K1.out)
      clear hwq p0 p1 p2 p3 hl
      obtain ⟨⟨p0, p1, p2, p3⟩, hpw1⟩ := H1.out.cells
      go_wp2_with fail
      trace "ALLOC"
      refine (alloc_x B a s L M2 _ w1 HA1.out HV.out hM2 hB1).mono ?_
      rintro e w3 hal
      rcases hal.three HV.out hM2.2 with ⟨rfl, h3, k3, hr⟩ | ⟨rfl, h3, k3, hr⟩ | ⟨i, k, age, s1, L1, rfl, h3, v3, hap, k3⟩
      · have kb := (Keeps.refl (fun _ => False) w3).alloc (.cells #[.int .i64 0, .int .i64 0, .int .i64 0] 40)
        have H3 := hide ((H1.out.quiet k3).quiet kb)
        have HA3 := hide (h3.quiet kb)
        have K3 := hide ((K1.out.trans k3).trans kb)
        have HR := hide hr
        clear h3 k3 kb hr H1 HA1 p0 p1 p2 p3
        go_wp2_with fail
        trace "NO1"
        go_ret2
        exact .no 1 rfl (.inr (.inr (.inr ⟨by have := HLen.out; omega, by have := HLen.out; omega, HNo.out, by rw [← HCn.out]; exact HF.out, by omega, by have := HR.out; rw [← HLen.out] at this; exact this⟩))) H3.out HA3.out K3.out
      · have kb := (Keeps.refl (fun _ => False) w3).alloc (.cells #[.int .i64 0, .int .i64 0, .int .i64 0] 40)
        have H3 := hide ((H1.out.quiet k3).quiet kb)
        have HA3 := hide (h3.quiet kb)
        have K3 := hide ((K1.out.trans k3).trans kb)
        have HR := hide hr
        clear h3 k3 kb hr H1 HA1 p0 p1 p2 p3
        go_wp2_with fail
        trace "NO7"
        go_ret2
        exact .no 7 rfl (.inr (.inr (.inr ⟨by have := HLen.out; omega, by have := HLen.out; omega, HNo.out, by rw [← HCn.out]; exact HF.out, by omega, by have := HR.out; rw [← HLen.out] at this; exact this⟩))) H3.out HA3.out K3.out
      · have HAP := hide hap
        obtain ⟨i', k', hi', hk', g3, hage, hfit⟩ := hap.got HV.out rfl
        obtain rfl : i = i' := by omega
        obtain rfl : k = k' := by omega
        clear hap hi' hk'
        obtain ⟨c, hc, hcs, hcl⟩ := g3.fit
        have HX4 := hide (Blk.new w3 40 #[.int .i64 i, .int .i64 k, .int .i64 age])
        have kb := (Keeps.refl (fun _ => False) w3).alloc (.cells #[.int .i64 i, .int .i64 k, .int .i64 age] 40)
        have H4 := hide ((H1.out.ar k3).quiet kb)
        have HA4 := hide (h3.quiet kb)
        have HV4 := hide v3
        have HG := hide g3
        have K4 := hide ((PoS.quiet K1.out (PoS.ar k3)).step0 kb)
        have hB4 := Nat.le_trans hB1 (Nat.le_trans k3.size kb.size)
        have hlv : LV s1 i k age [] := (g3.lvs i k age []).2 (.inl ⟨rfl, rfl, rfl, rfl⟩)
        obtain ⟨c1, hc1⟩ : ∃ c1, s1.cls[i]? = some c1 := by obtain ⟨c1, x1, h1, _⟩ := hlv; exact ⟨c1, h1⟩
        have hsz : (t.size : Int) ≤ c1.size := by rw [shapeP_at g3.shape hc hc1]; exact hcs
        have HLv := hide hlv
        have HC1 := hide hc1
        have hcv := fun W => Lib.run_convert_string_bytes (P := Try.prog) W 9 54 5 t Try.underlying9 Try.underlying54 Try.underlying5
        clear h3 k3 kb hfit H1 HA1 p0 p1 p2 p3 g3 v3 hlv hc1 hc hcs hcl
        go_upto_region 14 with fail
        trace "OK14"
        generalize w3.alloc _ = w4 at *
        generalize w3.heap.size = X at *
        go_upto_region 16 with fail
        trace "OK16"
        obtain ⟨⟨p0, p1, p2, p3⟩, hpw4⟩ := H4.out.cells
        obtain ⟨⟨x0, x1, x2⟩, _, hX4⟩ := HX4.out.three
        have HSg : Hid (∀ W, Keeps (ArS B w4) w4 W → (Keeps (ArS B w4) w4 W ∧ W.cell? ⟨p, 0, none⟩ = some (.pointer (some ⟨a, 0, none⟩)) ∧ W.cell? ⟨X, 0, none⟩ = some (.int .i64 i) ∧ W.cell? ⟨X, 1, none⟩ = some (.int .i64 k) ∧ W.cell? ⟨X, 2, none⟩ = some (.int .i64 age))) := hide (fun W kW => by
          have n1 := ArS.not (B := B) H4.out.blk (by decide) (by decide) (by decide)
          have n2 := ArS.not (B := B) HX4.out (by decide) (by decide) (by decide)
          exact ⟨kW, kW.cell_some p0 n1, kW.cell_some x0 n2, kW.cell_some x1 n2, kW.cell_some x2 n2⟩)
        refine wp_region_held_drew (S := fun W => Keeps (ArS B w4) w4 W ∧ W.cell? ⟨p, 0, none⟩ = some (.pointer (some ⟨a, 0, none⟩)) ∧ W.cell? ⟨X, 0, none⟩ = some (.int .i64 i) ∧ W.cell? ⟨X, 1, none⟩ = some (.int .i64 k) ∧ W.cell? ⟨X, 2, none⟩ = some (.int .i64 age)) (by kernel_rfl) (HSg.out _ ((Keeps.refl _ _).drew)) (fun hHeld => ?_)
        refine wpAnyH_take (i := 0) (v := ?_) rfl (by kernel_rfl) (by kernel_rfl) (by kernel_rfl) (fun _ _ _ h => h) (Or.inl ⟨by first | kernel_rfl | rfl, ?_⟩) (by assumption) ?_; rotate_left; focus (intro w hSw; (try dsimp only at hSw); go_simp; try (with_reducible rfl)); (try simp only [Act.put, List.getElem_toArray, List.getElem_cons_succ, List.getElem_cons_zero, List.setIfInBounds_toArray, List.set_cons_zero, List.set_cons_succ])
        refine wpAnyH_take (i := 1) (v := ?_) rfl (by kernel_rfl) (by kernel_rfl) (by kernel_rfl) (fun _ _ _ h => h) (Or.inl ⟨by first | kernel_rfl | rfl, ?_⟩) (by assumption) ?_; rotate_left; focus (intro w hSw; (try dsimp only at hSw); go_simp; try (with_reducible rfl)); (try simp only [Act.put, List.getElem_toArray, List.getElem_cons_succ, List.getElem_cons_zero, List.setIfInBounds_toArray, List.set_cons_zero, List.set_cons_succ])
        refine wpAnyH_take (i := 2) (v := ?_) rfl (by kernel_rfl) (by kernel_rfl) (by kernel_rfl) (fun _ _ _ h => h) (Or.inl ⟨by first | kernel_rfl | rfl, ?_⟩) (by assumption) ?_; rotate_left; focus (intro w hSw; (try dsimp only at hSw); go_simp; try (with_reducible rfl)); (try simp only [Act.put, List.getElem_toArray, List.getElem_cons_succ, List.getElem_cons_zero, List.setIfInBounds_toArray, List.set_cons_zero, List.set_cons_succ])
        refine wpAnyH_take (i := 3) (v := ?_) rfl (by kernel_rfl) (by kernel_rfl) (by kernel_rfl) (fun _ _ _ h => h) (Or.inl ⟨by first | kernel_rfl | rfl, ?_⟩) (by assumption) ?_; rotate_left; focus (intro w hSw; (try dsimp only at hSw); go_simp; try (with_reducible rfl)); (try simp only [Act.put, List.getElem_toArray, List.getElem_cons_succ, List.getElem_cons_zero, List.setIfInBounds_toArray, List.set_cons_zero, List.set_cons_succ])
        refine wpAnyH_take (i := 4) (v := ?_) rfl (by kernel_rfl) (by kernel_rfl) (by kernel_rfl) (fun _ _ _ h => h) (Or.inl ⟨by first | kernel_rfl | rfl, ?_⟩) (by assumption) ?_; rotate_left; focus (intro w hSw; (try dsimp only at hSw); go_simp; try (with_reducible rfl)); (try simp only [Act.put, List.getElem_toArray, List.getElem_cons_succ, List.getElem_cons_zero, List.setIfInBounds_toArray, List.set_cons_zero, List.set_cons_succ])
        refine wpAnyH_take (i := 5) (v := ?_) rfl (by kernel_rfl) (by kernel_rfl) (by kernel_rfl) (fun _ _ _ h => h) (Or.inl ⟨by first | kernel_rfl | rfl, ?_⟩) (by assumption) ?_; rotate_left; focus (intro w hSw; (try dsimp only at hSw); go_simp; try (with_reducible rfl)); (try simp only [Act.put, List.getElem_toArray, List.getElem_cons_succ, List.getElem_cons_zero, List.setIfInBounds_toArray, List.set_cons_zero, List.set_cons_succ])
        refine wpAnyH_ready (rs := [6]) (by kernel_rfl) (by simp) ?_
        refine AllReadyH.cons rfl (fun K hK => ?_) AllReadyH.nil
        go_simp
        trace "CONV"
        have k5 : Keeps (fun _ => False) w4 (Lib.bytesWorld w4.drew 5 t) := ((Keeps.refl _ w4).drew).trans (keeps_bytes _ _ _)
        have RB := hide (show Rd (Lib.bytesWorld w4.drew 5 t) (Lib.bytesWorld w4.drew 5 t).heap.size (some ⟨w4.heap.size, 0, none⟩) 1 t.size (t.data.toList.map by8) from rd_bytes w4.drew t)
        refine hK.out _ _ (HSg.out _ (k5.weak (fun _ _ h => h.elim))) (fun _ => ?_)
        clear hK K
        generalize Lib.bytesWorld _ _ _ = w5 at *
        (try simp only [Act.put, List.getElem_toArray, List.getElem_cons_succ, List.getElem_cons_zero, List.setIfInBounds_toArray, List.set_cons_zero, List.set_cons_succ])
        refine wpAnyH_ready (rs := [7]) (by kernel_rfl) (by simp) ?_
        refine AllReadyH.cons rfl (fun K hK => ?_) AllReadyH.nil
        go_simp
        trace "WRITE"
        go_at_call 31
        refine (write_x B a s1 L1 (M2 + 1) i k age [] c1 _ t.size _ _ t.data.toList w5 (HA4.out.quiet k5) HV4.out HLv.out HC1.out hsz RB.out (Nat.le_refl _) (Nat.le_trans hB4 k5.size)).mono ?_
        rintro e w6 ⟨rfl, ⟨s2, h6, v6, st6, sl6⟩, k6⟩
        have k46 := ArS.quiet k5 k6
        try go_wp2_with fail
        trace "WRITTEN"
        refine hK.out _ _ (HSg.out _ k46) (fun _ => ?_)
        clear hK K
        (try simp only [Act.put, List.getElem_toArray, List.getElem_cons_succ, List.getElem_cons_zero, List.setIfInBounds_toArray, List.set_cons_zero, List.set_cons_succ])
        refine wpAnyH_take (i := 8) (v := ?_) rfl (by kernel_rfl) (by kernel_rfl) (by kernel_rfl) (fun _ _ _ h => h) (Or.inl ⟨by first | kernel_rfl | rfl, ?_⟩) (by assumption) ?_; rotate_left; focus (intro w hSw; (try dsimp only at hSw); go_simp; try (with_reducible rfl)); (try simp only [Act.put, List.getElem_toArray, List.getElem_cons_succ, List.getElem_cons_zero, List.setIfInBounds_toArray, List.set_cons_zero, List.set_cons_succ])
        refine wpAnyH_done (by kernel_rfl) ?_ _
        (try simp only [Act.put, List.getElem_toArray, List.getElem_cons_succ, List.getElem_cons_zero, List.setIfInBounds_toArray, List.set_cons_zero, List.set_cons_succ])
        have H6 := hide (H4.out.ar k46)
        have HA6 := hide h6
        have HV6 := hide v6
        have HW6 := hide (step_wrote st6)
        have HST := hide st6
        have HSL := hide sl6
        have HX6 := hide (HX4.out.kept k46 (ArS.not HX4.out (by decide) (by decide) (by decide)))
        have K6 := hide (PoS.trans K4.out (PoS.ar k46))
        have hB6 : B ≤ w6.heap.size := Nat.le_trans hB4 k46.size
        clear hHeld HSg H4 HA4 HX4 RB k5 k6 k46 h6 v6 st6 sl6 p0 p1 p2 p3 x0 x1 x2 hX4 HLv HC1 hsz hcv
        go_upto_region 19 with fail
        trace "R19"
        go_wp2_with fail
        trace "FREE"
        refine (pfree_x w6 B p a n E EA cap mb D H6.out (by rw [← HN.out]; exact hE0) (by rw [← HN.out]; exact hEl) hB6).mono ?_
        rintro e w7 ⟨E1, EA1, cap1, id, x, rfl, h7, hE1, hx, hu, hid1, hleast, k7⟩
        have HA7 := hide (HA6.out.kept k7 (fun b hb => PoO.other hb))
        have HX7 := hide (HX6.out.kept k7 (PoO.not HX6.out (by decide) (by decide)))
        have K7 := hide (PoS.trans K6.out (PoS.po k7))
        have H7 := hide h7
        have HE1 := hide hE1
        have HXx := hide hx
        have HLe := hide hleast
        have hidl : id < E1.length := (List.getElem?_eq_some_iff.1 hx).1
        have hE1l : E1.length ≤ N + 1 := by rw [HN.out]; rcases hE1 with rfl | ⟨rfl, _⟩ <;> simp
        obtain ⟨g, rfl, hg1, hg2⟩ := h7.own.some_ (by omega)
        obtain ⟨N1, hN1⟩ : ∃ N1, N1 = E1.length := ⟨_, rfl⟩
        have HN1 := hide hN1
        obtain ⟨⟨p0, p1, p2, p3⟩, hpw7⟩ := h7.cells
        rw [← hN1] at p2 hidl hE1l
        have hw4 : ∀ q, w7.frozen? ⟨g, q, none⟩ = false := fun q => h7.own.frozen q
        have v0 := h7.own.cell (id * 4) (by omega)
        rw [(peCs_at hx).1] at v0
        have v1 := h7.own.cell (id * 4 + 1) (by omega)
        rw [(peCs_at hx).2.1] at v1
        have v2 := h7.own.cell (id * 4 + 2) (by omega)
        rw [(peCs_at hx).2.2.1] at v2
        have v3 := h7.own.cell (id * 4 + 3) (by omega)
        rw [(peCs_at hx).2.2.2] at v3
        have f0 := hw4 (id * 4)
        have f1 := hw4 (id * 4 + 1)
        have f2 := hw4 (id * 4 + 2)
        have f3 := hw4 (id * 4 + 3)
        have hiI : (id : Int) < (N1 : Int) := by omega
        have hi00 : (0 : Int) ≤ (id : Int) := by omega
        obtain ⟨⟨x0, x1, x2⟩, _, hX7⟩ := HX7.out.three
        clear h7 hE1 hx hleast k7 hN1 H6 HA6 HX6 K6 hw4
        go_upto_region 20 with fail
        trace "R20"
        go_region
        trace "R20b"
        obtain ⟨he8, ke8⟩ := H7.out.entry HXx.out ⟨(i, k, age), t.data.toList, 1⟩
        dsimp only at he8 ke8
        have H8 := hide (he8.quiet ((Keeps.refl (fun _ => False) _).drew))
        have HA8 := hide ((HA7.out.kept ke8 (fun b hb => by subst hb; exact H7.out.other ⟨_, rfl, rfl⟩)).quiet ((Keeps.refl (fun _ => False) _).drew))
        have K8 := hide (PoS.trans K7.out (Keeps.drew (ke8.weak (S' := PoS B w7) (fun b _ hb => by subst hb; exact H7.out.inE ⟨_, rfl, rfl⟩))))
        clear he8 ke8 H7 HA7 K7 p0 p1 p2 p3 v0 v1 v2 v3 f0 f1 f2 f3 x0 x1 x2 hX7 HX7 hpw7
        generalize World.drew _ = w8 at *
        have hu0 : x.users = 0 := hu
        have HP1 : Hid (PInv E1 s D (M + 1)) := hide (by rcases HE1.out with e | ⟨e, _⟩ <;> rw [e]; exact HP.out.more (by omega); exact HP.out.grow)
        have HNo1 : Hid (NoKey E1 t.data.toList) := hide (by
          rcases HE1.out with e | ⟨e, _⟩
          · rw [e]; exact HNo.out
          · rw [e]
            intro j y hy hyu
            rw [List.getElem?_append] at hy
            split at hy
            · exact HNo.out j y hy hyu
            · have := List.mem_of_getElem? hy
              simp at this
              subst this
              simp [PE.zero] at hyu)
        have hM1 : 1 ≤ M + 1 := by have := HP.out.len; have := HN.out; omega
        have HP2 := hide (HP1.out.put hM1 HXx.out hu0 hid1 (key := t.data.toList) (by have := HLen.out; omega) (by have := HLen.out; omega) HG.out HW6.out HNo1.out)
        have hszD : Maps.size D < maxLen := by rw [HSz.out, HCn.out]; have := cntU_le E; have := HN.out; simp only [maxLen]; omega
        have hwf := wf_id id (by omega)
        have hkey := key_of (s := t) (by simp only [maxLen]; omega)
        obtain ⟨⟨p0, p1, p2, p3⟩, hpw8⟩ := H8.out.cells
        go_wp2_with (at_mapUpdate; refine wpList_mapUpdate_own _ rfl _ _ _ 142 rfl 9 3 (string_keyed Try.underlying9) Try.underlying142 (plainElem Try.prog 3) mb (Maps.size D) D rfl H8.out.map hszD _ _ (.string t.data.toList) rfl rfl hkey (kval id) [] (plainElem_int Try.underlying3 hwf) ?_; intro w9 hown9 hgrow9; have k9 := keep_map hgrow9; have H9 := hide (H8.out.mapped k9 (map_tight hown9)); have HA9 := hide (HA8.out.mapped H8.out k9); have K9 := hide (PoS.trans K8.out (k9.weak (S' := PoS B w8) (fun b _ hb => by subst hb; exact H8.out.inM))); clear hown9 hgrow9 k9)
        trace "MAP"
        go_ret2
        exact .new id x E1 _ cap1 i k age s1 s2 L1 rfl (by have := HLen.out; omega) (by have := HLen.out; omega) HNo.out (by rw [← HCn.out]; exact HF.out) HE1.out HXx.out hu0 hid1 HLe.out H9.out HA9.out HV6.out (by rw [HLen.out]; exact HAP.out) HST.out HSL.out HP2.out K9.out
  · have hl := l1 id x hx hu hk
    have hid : id < E.length := (List.getElem?_eq_some_iff.1 hx).1
    obtain ⟨g, rfl, _⟩ := h.own.some_ (by omega)
    obtain ⟨_, _, _, g3⟩ := peCs_at hx
    have q3 := h.own.cell (id * 4 + 3) (by omega)
    have f3 := h.own.frozen (id * 4 + 3)
    rw [g3] at q3
    have hus := (v.us id x hx).2
    have hgw : g < w.heap.size := by
      have hi : inB (some ⟨g, 0, none⟩ : Option Addr) g := ⟨_, rfl, rfl⟩
      exact (h.own.inB hi).2
    obtain ⟨N, hN⟩ : ∃ N, N = E.length := ⟨_, rfl⟩
    rw [← hN] at p2 hid hEl
    have hiI : (id : Int) < (N : Int) := by omega
    have hi00 : (0 : Int) ≤ (id : Int) := by omega
    have ws : IntKind.i64.wrap (x.users + 1) = x.users + 1 := IntWalk.i64_in _ (by omega)
    have HX := hide hx
    have HK := hide hk
    have kS := keepsOne w g (id * 4 + 3) (.int .i64 (x.users + 1))
    have H2 := hide (H.out.users hx (x.users + 1))
    have HA2 := hide (hA.kept kS (fun b hb => by subst hb; exact H.out.other ⟨_, rfl, rfl⟩))
    have K2 := hide (kS.weak (S' := PoS B w) (fun b _ hb => by subst hb; exact H.out.inE ⟨_, rfl, rfl⟩))
    have HLn : Hid (1 ≤ t.data.toList.length ∧ t.data.toList.length ≤ 255) := hide ⟨by omega, by omega⟩
    clear l1 l2 h hA hV v hx hk hN g3 kS hlen
    go_enter Try.func39, Try.ntmps39
    go_wp2_with fail
    trace "OLD"
    go_ret2
    exact .old id x rfl HX.out hu HK.out H2.out HA2.out (HP.out.users HX.out hu (x.users + 1) (by omega) (by omega) (by omega)) HLn.out.1 HLn.out.2 K2.out
end Go.Proofs.Ytidobhflijdccaa
