
/-
  The exact store: SameEntries, the deck's entries, a store whose other blocks are kept; the chapter's example. No conditions beyond those of the statement.
-/
import Derived.Test.YtmbgnekilgobaaaEq
import Derived.Test.YtmbgnekilgobaaaEk
set_option linter.unusedVariables false
set_option linter.unusedSimpArgs false
namespace Go.Proofs.Ytmbgnekilgobaaa
open Go.RowKit
set_option maxRecDepth 100000 in
theorem sameEntries_any (l : List Ln) (A A2 : Option Addr) (m c c2 B B2 : Nat) (w : World) (hr : Rd w B A 3 m (lnCs l)) (hr2 : Rd w B2 A2 3 m (lnCs l)) (hm : m ≤ 1000000) :
    Calls Try.prog 54 #[.slice A m c, .slice A2 m c2] w fun e w' => e = .returned (.bool true) ∧ ∃ k, w' = w.drewN k := by
  have hl := lnRd_len hr
  have HR := hide hr
  have HR2 := hide hr2
  have HLl := hide hl
  clear hr hr2 hl
  go_enter Try.func54, Try.ntmps54
  go_upto_region 4 with fail
  go_loopw [13] (fun iv wr => ∃ i k : Nat, i ≤ m ∧ iv = .int .i64 (i : Int) ∧ wr = w.drewN k) (fun iv _ => m - (intOf iv).toNat)
  case atStart => exact ⟨0, 0, by omega, rfl, rfl⟩
  case round =>
    obtain ⟨i, kd, hi, rfl, rfl⟩ := hrel
    by_cases hlt : i < m
    · have e1 : decide (i < m) = true := by simpa using hlt
      obtain ⟨x, hx⟩ : ∃ x, l[i]? = some x := ⟨l[i]'(by rw [HLl.out]; exact hlt), List.getElem?_eq_getElem _⟩
      obtain ⟨b, off, rfl, _, hc⟩ := HR.out.2 (by omega)
      obtain ⟨b2, off2, rfl, _, hc2⟩ := HR2.out.2 (by omega)
      obtain ⟨g0, g1, g2⟩ := lnCs_at hx
      have r0 := hc _ _ g0
      have r1 := hc _ _ g1
      have r2 := hc _ _ g2
      rw [← Nat.add_assoc] at r1 r2
      have t0 := hc2 _ _ g0
      have t1 := hc2 _ _ g1
      have t2 := hc2 _ _ g2
      rw [← Nat.add_assoc] at t1 t2
      clear hc hc2 g0 g1 g2 hx
      go_upto_region 6 with fail
      go_quiet (fail)
      go_wp2_with fail
      go_roundw
      case rel => exact ⟨i + 1, kd + nq, by omega, by go_num, by first | rfl | simp [World.drewN, Nat.add_assoc]⟩
      case measure => simp [intOf]; omega
    · have e1 : decide (i < m) = false := by simpa using hlt
      go_wp2_with fail
      go_ret
      exact ⟨rfl, kd, rfl⟩
/-- What Entry gives. -/
def EntryPost (w : World) (B g : Nat) (e : Ending) (w' : World) : Prop :=
  ∃ x : Ln, e = .returned (enV x) ∧ 2 ≤ x.key.size ∧ x.key.size ≤ 3 ∧ 0 ≤ x.lo ∧ x.lo < 30 ∧ 0 ≤ x.hi ∧ x.hi < 10 ∧ IsDeck w' B g ∧ Keeps (· = g) w w'
set_option maxRecDepth 100000 in
theorem entry_any (B g : Nat) (w : World) (h : IsDeck w B g) : Calls Try.prog 37 #[.pointer (some ⟨g, 0, none⟩)] w (EntryPost w B g) := by
  obtain ⟨w1, hw1⟩ : ∃ w1, w1 = w.alloc (.cells #[.string ⟨#[]⟩, .int .u64 0, .int .u64 0] 53) := ⟨_, rfl⟩
  obtain ⟨gr, hgr⟩ : ∃ gr, gr = w.heap.size := ⟨_, rfl⟩
  have k1 : Keeps (fun _ => False) w w1 := by rw [hw1]; exact (Keeps.refl _ _).alloc _
  have HD := hide (h.kept k1 (fun h => h) (fun _ _ h => h))
  have HX : Hid (Blk w1 gr 53 (lnC en0).toArray) := hide (by rw [hw1, hgr]; exact Blk.new _ _ _)
  have hgg : g < gr := by rw [hgr]; exact h.lt
  have hgw : w.heap.size ≤ gr := by omega
  have HG := hide hgr
  have HW := hide hw1
  have K1 := hide k1
  clear h k1 hgr hw1
  go_enter Try.func37, Try.ntmps37
  go_upto_region 1 with fail
  rw [← HG.out, ← HW.out]
  go_wp2_with fail
  refine (short_any B g _ HD.out).mono ?_
  rintro e w2 ⟨s, rfl, s0, s1, h2, k2⟩
  have H2 := hide h2
  have K2 := hide k2
  clear h2 k2
  go_wp2_with fail
  refine (next_any _ (by omega) (by omega) B g _ H2.out).mono ?_
  rintro e w3 ⟨x, rfl, x0, x1, h3, k3⟩
  have H3 := hide h3
  have K3 := hide (K2.out.trans k3)
  have wx : IntKind.u64.wrap x = x := by rw [IntKind.wrap_u64]; omega
  clear h3 k3
  go_wp2_with fail
  refine (next_any _ (by omega) (by omega) B g _ H3.out).mono ?_
  rintro e w4 ⟨y, rfl, y0, y1, h4, k4⟩
  have K4 := hide (K3.out.trans k4)
  have wy : IntKind.u64.wrap y = y := by rw [IntKind.wrap_u64]; omega
  have X4 := HX.out.kept K4.out (by omega)
  obtain ⟨hs6, ks6⟩ := set_en X4 ⟨s, x, y⟩
  obtain ⟨x40, x41, x42⟩ := ln_cells X4
  have f40 := X4.frozen 0
  have f41 := X4.frozen 1
  have f42 := X4.frozen 2
  have hxl := X4.lt
  have H4 := hide (h4.kept ks6 (by omega) (fun b hb e => by have := h4.le; omega))
  have K6 := hide (((K1.out.weak (S' := (· = g)) (fun _ _ h => h.elim)).trans K4.out).step ks6 (fun b hb e => by omega))
  clear h4 k4 X4 ks6
  go_wp2_with fail
  obtain ⟨w6, hw6⟩ : ∃ w6, w6 = ((w4.setCell ⟨gr, 0, none⟩ (.string s)).setCell ⟨gr, 1, none⟩ (.int .u64 x)).setCell ⟨gr, 2, none⟩ (.int .u64 y) := ⟨_, rfl⟩
  obtain ⟨r0, r1, r2⟩ := ln_cells hs6
  dsimp only at r0 r1 r2 H4 K6
  rw [← hw6] at r0 r1 r2 H4 K6 ⊢
  clear hw6 hs6
  refine bodyPost_ret (v := enV ⟨s, x, y⟩) (by simp [results, Try.results37, go_sem, r0, r1, r2]) rfl ?_
  exact ⟨⟨s, x, y⟩, rfl, s0, s1, x0, x1, y0, y1, H4.out, K6.out⟩
/-- s is a store of the entries l; what is in G is none of its own -/
def IsS (w : World) (G : Nat → Prop) (s : Nat) (N : Int) (l : List Ln) : Prop :=
  ∃ (A : Option Addr) (m c : Nat), Blk w s 93 #[.int .i64 N, .slice A m c] ∧ Ens w 0 A m c l ∧ (∀ k, inB A k → ¬ G k) ∧ ¬ G s ∧ Asc l ∧ Nums l ∧ (m : Int) ≤ N ∧ N ≤ 32
theorem IsS.lt {w : World} {G : Nat → Prop} {s : Nat} {N : Int} {l : List Ln} (h : IsS w G s N l) : s < w.heap.size := by
  obtain ⟨A, m, c, h1, _⟩ := h
  exact h1.lt
theorem IsS.kept {w w' : World} {G S : Nat → Prop} {s : Nat} {N : Int} {l : List Ln} (h : IsS w G s N l) (k : Keeps S w w') (hS : ∀ k, S k → G k) : IsS w' G s N l := by
  obtain ⟨A, m, c, h1, h2, h3, h4, h5⟩ := h
  exact ⟨A, m, c, h1.kept k (fun e => h4 (hS _ e)), h2.kept k (fun q hq e => h3 q hq (hS _ e)), h3, h4, h5⟩
/-- what was made meanwhile is none of the store's own -/
theorem IsS.grow {w w' : World} {G S : Nat → Prop} {s : Nat} {N : Int} {l : List Ln} (h : IsS w G s N l) (k : Keeps S w w') (hS : ∀ k, S k → G k) : IsS w' (fun q => G q ∨ (w.heap.size ≤ q ∧ q < w'.heap.size)) s N l := by
  obtain ⟨A, m, c, h1, h2, h3, h4, h5⟩ := h
  refine ⟨A, m, c, h1.kept k (fun e => h4 (hS _ e)), h2.kept k (fun q hq e => h3 q hq (hS _ e)), fun q hq e => ?_, fun e => ?_, h5⟩
  · rcases e with e | e
    · exact h3 q hq e
    · have := (h2.inB hq).2; omega
  · rcases e with e | e
    · exact h4 e
    · have := h1.lt; omega
theorem IsS.less {w : World} {G G' : Nat → Prop} {s : Nat} {N : Int} {l : List Ln} (h : IsS w G s N l) (hG : ∀ k, G' k → G k) : IsS w G' s N l := by
  obtain ⟨A, m, c, h1, h2, h3, h4, h5⟩ := h
  exact ⟨A, m, c, h1, h2, fun q hq e => h3 q hq (hG q e), fun e => h4 (hG _ e), h5⟩
theorem insE_asc {l : List Ln} (h : Asc l) {x : Ln} (hf : foundK l x.key = false) : Asc (insE l x) := by
  induction l with
  | nil => exact List.pairwise_singleton _ _
  | cons y l ih =>
    have h2 := List.pairwise_cons.1 h
    rcases e : kLt y x.key with _ | _
    · have hp : posK (y :: l) x.key = 0 := by unfold posK; rw [List.takeWhile_cons, if_neg (by rw [e]; decide)]; rfl
      have hi : insE (y :: l) x = x :: y :: l := by unfold insE; rw [hp]; rfl
      have hxy : Op.bytesLess x.key.toList y.key.toList = true := by
        rcases bl_tri x.key.toList y.key.toList with e1 | e1 | e1
        · exact e1
        · exfalso
          unfold foundK at hf
          rw [hp] at hf
          have : y.key = x.key := key_eq.1 (by rw [beq_iff_eq]; exact e1.symm)
          have h3 := (cmp_zero _ _).2 this
          rw [List.getElem?_cons_zero] at hf
          dsimp only at hf
          rw [h3] at hf
          cases hf
        · unfold kLt at e
          rw [e1] at e
          cases e
      rw [hi]
      refine List.pairwise_cons.2 ⟨fun z hz => ?_, h⟩
      rcases List.mem_cons.1 hz with rfl | hz
      · exact hxy
      · exact bl_tr _ _ _ hxy (h2.1 z hz)
    · have hp : posK (y :: l) x.key = posK l x.key + 1 := by unfold posK; rw [List.takeWhile_cons, if_pos e]; rfl
      have hi : insE (y :: l) x = y :: insE l x := by unfold insE; rw [hp]; rfl
      have hf2 : foundK l x.key = false := by
        unfold foundK at hf ⊢
        rw [hp] at hf
        exact hf
      rw [hi]
      refine List.pairwise_cons.2 ⟨fun z hz => ?_, ih h2.2 hf2⟩
      unfold insE at hz
      rcases List.mem_append.1 hz with hz | hz
      · exact h2.1 z (List.mem_of_mem_take hz)
      · rcases List.mem_cons.1 hz with rfl | hz
        · exact e
        · exact h2.1 z (List.mem_of_mem_drop hz)
theorem Nums.put {l : List Ln} (h : Nums l) {x : Ln} (hx : 0 ≤ x.lo ∧ 0 ≤ x.hi ∧ x.lo + x.hi ≤ 9223372036854775808) : Nums (insE l x) := by
  intro y hy
  unfold insE at hy
  rcases List.mem_append.1 hy with hy | hy
  · exact h y (List.mem_of_mem_take hy)
  · rcases List.mem_cons.1 hy with rfl | hy
    · exact hx
    · exact h y (List.mem_of_mem_drop hy)
theorem putL_laws {l : List Ln} (ha : Asc l) (hn : Nums l) (N : Int) (m : Nat) {x : Ln} (hx : U x.lo ∧ U x.hi) : Asc (putL N m l x) ∧ Nums (putL N m l x) := by
  unfold putL
  by_cases hC : putC N m l x = 0
  · rw [if_pos hC]
    unfold putC at hC
    split at hC
    · cases hC
    split at hC
    · cases hC
    split at hC
    · cases hC
    split at hC
    · rename_i h1 h2 h3 h4
      have h5 : x.lo + x.hi ≤ 9223372036854775808 := by unfold fit3 at h4; have := of_decide_eq_true h4; omega
      exact ⟨insE_asc ha (by simpa using h2), Nums.put hn ⟨hx.1.1, hx.2.1, h5⟩⟩
    · cases hC
  · rw [if_neg hC]
    exact ⟨ha, hn⟩
theorem putM_len {N : Int} {m : Nat} {l : List Ln} {x : Ln} (hm : l.length = m) : (putL N m l x).length = putM N m l x := by
  unfold putL putM
  split
  · have := insE_len l x
    unfold insE at this
    rw [this, hm]
  · exact hm
theorem putM_le {N : Int} {m : Nat} {l : List Ln} {x : Ln} (hm : (m : Int) ≤ N) : (putM N m l x : Int) ≤ N := by
  unfold putM
  by_cases hC : putC N m l x = 0
  · rw [if_pos hC]
    unfold putC at hC
    split at hC
    · cases hC
    split at hC
    · cases hC
    split at hC
    · cases hC
    · rename_i h3
      have h4 : (m : Int) ≠ N := by simpa using h3
      omega
  · rw [if_neg hC]; exact hm
theorem addL_len (l : List Ln) (k : ByteArray) (v : Int) : (addL l k v).length = l.length := by
  unfold addL
  split
  · rw [List.length_set]
  · rfl
theorem addL_laws {l : List Ln} (ha : Asc l) (hn : Nums l) (k : ByteArray) {v : Int} (hv : U v) : Asc (addL l k v) ∧ Nums (addL l k v) := by
  unfold addL
  by_cases hC : addC l k v = 0
  · rw [if_pos hC]
    unfold addC at hC
    split at hC
    · split at hC
      · rename_i h1 h2
        obtain ⟨h3, h4⟩ := getE_yes h1
        have h5 := hn _ (List.mem_of_getElem? h3)
        have h6 : (getE l k).lo + (getE l k).hi + v ≤ 9223372036854775808 := by unfold fit3 at h2; exact of_decide_eq_true h2
        generalize getE l k = y at *
        obtain ⟨hp, h3⟩ := List.getElem?_eq_some_iff.1 h3
        refine ⟨?_, fun z hz => ?_⟩
        · unfold Asc
          rw [List.pairwise_iff_getElem]
          intro i j hi hj hij
          have h8 := List.pairwise_iff_getElem.1 ha i j (by simpa using hi) (by simpa using hj) hij
          rw [List.getElem_set, List.getElem_set]
          split
          · rename_i e
            subst e
            rw [if_neg (by omega)]
            rw [h3] at h8
            exact h8
          · split
            · rename_i e
              subst e
              rw [h3] at h8
              exact h8
            · exact h8
        · rcases List.mem_or_eq_of_mem_set hz with hz | rfl
          · exact hn z hz
          · have := hv.1
            refine ⟨?_, h5.2.1, ?_⟩ <;> (dsimp only; omega)
      · cases hC
    · cases hC
  · rw [if_neg hC]
    exact ⟨ha, hn⟩
theorem takeL_len {m : Nat} {l : List Ln} {k : ByteArray} (hm : l.length = m) : (takeL l k).length = takeM m l k := by
  unfold takeL takeM
  split
  · rename_i h
    have := (List.getElem?_eq_some_iff.1 (getE_yes h).1).1
    simp
    omega
  · exact hm
theorem takeL_sub (l : List Ln) (k : ByteArray) : (takeL l k).Sublist l := by
  unfold takeL
  split
  · rw [← List.eraseIdx_eq_take_drop_succ]
    exact List.eraseIdx_sublist ..
  · exact List.Sublist.refl _
theorem takeL_laws {l : List Ln} (ha : Asc l) (hn : Nums l) (k : ByteArray) : Asc (takeL l k) ∧ Nums (takeL l k) :=
  ⟨List.Pairwise.sublist (takeL_sub l k) ha, fun x hx => hn x ((takeL_sub l k).subset hx)⟩
/-- what an operation of the store leaves -/
def SPost (w : World) (G : Nat → Prop) (s : Nat) (N : Int) (l : List Ln) (v : Value) (e : Ending) (w' : World) : Prop :=
  e = .returned v ∧ IsS w' G s N l ∧ Keeps (fun k => ¬ G k) w w'
theorem sput_any (w : World) (G : Nat → Prop) (s : Nat) (N : Int) (l : List Ln) (x : Ln) (h : IsS w G s N l) (hG : ∀ k, G k → k < w.heap.size) (hx : U x.lo ∧ U x.hi) :
    Calls Try.prog 38 #[.pointer (some ⟨s, 0, none⟩), enV x] w (SPost w G s N (putL N l.length l x) (.int .i64 (putC N l.length l x))) := by
  obtain ⟨A, m, c, h1, h2, h3, h4, h5, h6, h7, h8⟩ := h
  have hm := Lns.len_en h2
  refine (eput_any w 0 s N A m c l x hx h1 h2 (Nat.zero_le _) h5 (by omega) (fun e => h2.ne_blk h1 (by decide) e rfl)).mono ?_
  rintro e w' ⟨A', c', rfl, b', o', k', hA'⟩
  obtain ⟨l1, l2⟩ := putL_laws h5 h6 N m (x := x) hx
  rw [hm]
  refine ⟨rfl, ⟨A', _, c', b', o', fun q hq e => ?_, h4, l1, l2, putM_le h7, h8⟩, k'.weak (fun q _ e => e.elim (fun e => e ▸ h4) (fun e => h3 q e))⟩
  rcases hA' q hq with e2 | e2
  · exact h3 q e2 e
  · have := hG q e; omega
theorem sadd_any (w : World) (G : Nat → Prop) (s : Nat) (N : Int) (l : List Ln) (k : ByteArray) (v : Int) (h : IsS w G s N l) (hv : U v) :
    Calls Try.prog 40 #[.pointer (some ⟨s, 0, none⟩), .string k, .int .u64 v] w (SPost w G s N (addL l k v) (.int .i64 (addC l k v))) := by
  obtain ⟨A, m, c, h1, h2, h3, h4, h5, h6, h7, h8⟩ := h
  have hsA : ¬ inB A s := fun e => h2.ne_blk h1 (by decide) e rfl
  refine (eadd_any w 0 s N A m c l k v hv h1 h2 h5 h6 (by omega) hsA).mono ?_
  rintro e w' ⟨rfl, o', k'⟩
  obtain ⟨l1, l2⟩ := addL_laws h5 h6 k hv
  exact ⟨rfl, ⟨A, m, c, h1.kept k' hsA, o', h3, h4, l1, l2, h7, h8⟩, k'.weak (fun q _ e => h3 q e)⟩
theorem stake_any (w : World) (G : Nat → Prop) (s : Nat) (N : Int) (l : List Ln) (k : ByteArray) (h : IsS w G s N l) :
    Calls Try.prog 48 #[.pointer (some ⟨s, 0, none⟩), .string k] w (SPost w G s N (takeL l k) (.tuple #[enV (getE l k), .bool (foundK l k)])) := by
  obtain ⟨A, m, c, h1, h2, h3, h4, h5, h6, h7, h8⟩ := h
  refine (etake_any w 0 s N A m c l k h1 h2 h5 (by omega) (fun e => h2.ne_blk h1 (by decide) e rfl)).mono ?_
  rintro e w' ⟨rfl, b', o', k'⟩
  obtain ⟨l1, l2⟩ := takeL_laws h5 h6 k
  exact ⟨rfl, ⟨A, _, c, b', o', h3, h4, l1, l2, by unfold takeM; split <;> omega, h8⟩, k'.weak (fun q _ e => e.elim (fun e => e ▸ h4) (fun e => h3 q e))⟩
theorem sget_any (w : World) (G : Nat → Prop) (s : Nat) (N : Int) (l : List Ln) (k : ByteArray) (h : IsS w G s N l) :
    Calls Try.prog 41 #[.pointer (some ⟨s, 0, none⟩), .string k] w fun e w' => e = .returned (.tuple #[enV (getE l k), .bool (foundK l k)]) ∧ Keeps (fun _ => False) w w' := by
  obtain ⟨A, m, c, h1, h2, h3, h4, h5, h6, h7, h8⟩ := h
  exact eget_any w _ s N A m c l k h1 (h2.rd (by omega)) h5 (by omega)
theorem slen_any (w : World) (G : Nat → Prop) (s : Nat) (N : Int) (l : List Ln) (h : IsS w G s N l) :
    Calls Try.prog 42 #[.pointer (some ⟨s, 0, none⟩)] w fun e w' => e = .returned (.int .i64 (l.length : Nat)) ∧ w' = w := by
  obtain ⟨A, m, c, h1, h2, h3, h4, h5, h6, h7, h8⟩ := h
  rw [Lns.len_en h2]
  exact elen_any w s N A m c h1
theorem sleast_any (w : World) (G : Nat → Prop) (s : Nat) (N : Int) (l : List Ln) (h : IsS w G s N l) :
    Calls Try.prog 45 #[.pointer (some ⟨s, 0, none⟩)] w fun e w' => e = .returned (.tuple #[enV (leastL l), .bool (decide (0 < l.length))]) ∧ Keeps (fun _ => False) w w' := by
  obtain ⟨A, m, c, h1, h2, h3, h4, h5, h6, h7, h8⟩ := h
  cases l with
  | nil =>
    obtain rfl : m = 0 := (Lns.len_en h2).symm
    exact eleast_none w s N A c h1
  | cons x0 tl => exact eleast_some w _ s N A m c x0 tl h1 (h2.rd (by omega)) (Nat.le_refl _) h2.le h6 (by omega)
theorem sentries_any (w : World) (G : Nat → Prop) (s : Nat) (N : Int) (l : List Ln) (h : IsS w G s N l) :
    Calls Try.prog 46 #[.pointer (some ⟨s, 0, none⟩)] w fun e w' => ∃ A' c', e = .returned (.slice A' l.length c') ∧ Ens w' w.heap.size A' l.length c' l ∧ Keeps (fun _ => False) w w' := by
  obtain ⟨A, m, c, h1, h2, h3, h4, h5, h6, h7, h8⟩ := h
  rw [Lns.len_en h2]
  exact eentries_any w _ s N A m c l h1 (h2.rd (by omega)) (by omega)
theorem IsS.new (w : World) (G : Nat → Prop) (N : Int) (g : Nat) (hg : g = w.heap.size) (hG : ∀ k, G k → k < w.heap.size) (h0 : 0 ≤ N) (h1 : N ≤ 32) : IsS (w.alloc (.cells #[.int .i64 N, .slice none 0 0] 93)) G g N [] :=
  ⟨none, 0, 0, Blk.new_at _ _ _ _ hg, Own.nil _ _ _ _, fun k h => absurd h (inB_none k), fun e => by have := hG g e; omega, List.Pairwise.nil, (fun x hx => by cases hx), by omega, h1⟩
end Go.Proofs.Ytmbgnekilgobaaa
