/-
  QueueOrder: events leave the queue in the order in which they came, and an empty queue holds no memory. No conditions beyond those of the statement.
-/
import Derived.Test.YtidobhflijdccaaQf
import Derived.Test.YtidobhflijdccaaWg
set_option linter.unusedVariables false
set_option linter.unusedSimpArgs false
namespace Go.Proofs.Ytidobhflijdccaa
open Go.RowKit Cfp
theorem bytes_eqQ {s t : ByteArray} (h : s.data.toList = t.data.toList) : s = t := by
  obtain ⟨⟨s⟩⟩ := s
  obtain ⟨⟨t⟩⟩ := t
  simp at h
  subst h
  rfl
theorem cntF_none (sh : List (Int × Int)) (i : Nat) : ∀ E : List PE, (∀ e ∈ E, 0 < e.users → fitS sh e.key.length ≠ i) → cntF sh i E = 0
  | [], _ => rfl
  | e :: l, h => by
    have h1 := cntF_none sh i l (fun x hx => h x (List.mem_cons_of_mem _ hx))
    simp only [cntF, h1]
    rw [if_neg (fun q => h e (List.mem_cons_self ..) q.1 q.2)]
section
variable {sh : List (Int × Int)} {W : List Wt} {E : List PE} {s : Ar} {L : Nat → List Nat} {D : KD} {M M2 : Int}
/-- a key in use is that of an event -/
theorem QInv.event (h : QInv sh W E s L D M M2) {j : Nat} {e : PE} (he : E[j]? = some e) (hu : 0 < e.users) : ∃ x ∈ W, x.text = e.key := by
  have h1 := h.us j
  rw [usAt_get he] at h1
  have h2 : 0 < (W.map (fun x => x.key)).count j := by omega
  obtain ⟨x, hx, hk⟩ := List.mem_map.1 (List.count_pos_iff.1 h2)
  obtain ⟨e2, he2, hk2⟩ := h.tx x hx
  rw [hk, he] at he2
  injection he2 with he2
  subst he2
  exact ⟨x, hx, hk2.symm⟩
/-- short keys: their slots are those of the first class -/
theorem QInv.short (h : QInv sh27 W E s L D M M2) (ht : ∀ x ∈ W, x.text.length ≤ 8) (i : Nat) : (livesA s).getD i 0 ≤ W.length := by
  by_cases hi : i < sh27.length
  · rw [h.lv i hi]
    have h1 := cntF_le sh27 i E
    have h2 := h.cnt
    have h3 : fitS sh27 24 = 1 := rfl
    rw [h3]
    by_cases e0 : i = 0
    · rw [if_neg (by omega)]; omega
    · have h4 : cntF sh27 i E = 0 := cntF_none sh27 i E (fun e he hu q => by
        obtain ⟨j, hj⟩ := List.getElem?_of_mem he
        obtain ⟨x, hx, hk⟩ := h.event hj hu
        have := ht x hx
        rw [← hk, fit27, if_pos (by omega)] at q
        omega)
      rw [h4]
      split <;> omega
  · have : (livesA s).length = sh27.length := h.lenL
    rw [List.getD, List.getElem?_eq_none (by omega)]
    simp only [Option.getD_none]
    omega
theorem bytesN_zero (l : List Cls) (h : ∀ (i : Nat) (c : Cls), l[i]? = some c → c.live = 0) : ∀ k, bytesN l k = 0
  | 0 => rfl
  | k + 1 => by
    have h1 := bytesN_zero l h k
    show bytesN l k + (l.getD k Cls.nil).live * (l.getD k Cls.nil).size = 0
    rw [h1]
    rcases e : l[k]? with _ | c
    · simp [List.getD, e, Cls.nil]
    · simp [List.getD, e, h k c e]
theorem QInv.none (h : QInv sh27 [] E s L D M M2) : cntU E = 0 ∧ (∀ k, bytesN s.cls k = 0) ∧ s.cls.length = 3 := by
  have h1 := h.cnt
  simp only [List.length_nil] at h1
  have h0 : cntU E = 0 := by omega
  refine ⟨h0, bytesN_zero s.cls (fun i c hc => ?_), by have := congrArg List.length h.hsh; simpa [shapeA, sh27] using this⟩
  have hi := (List.getElem?_eq_some_iff.1 hc).1
  have hl : s.cls.length = sh27.length := by have := h.lenL; simpa [livesA] using this
  have h2 := h.lv i (by omega)
  have h3 := cntF_le sh27 i E
  have h4 : (livesA s).getD i 0 = c.live := by simp [livesA, List.getD, hc]
  rw [h4] at h2
  rw [h2]
  simp
  omega
end
/-- the items of events -/
def itC (x : Wt) : List Value := [.string ⟨x.text.toArray⟩, .int .i64 x.time, .int .u64 x.wgt]
def itCs (l : List Wt) : List Value := l.flatMap itC
theorem itCs_app (l m : List Wt) : itCs (l ++ m) = itCs l ++ itCs m := List.flatMap_append
theorem itCs_at {l : List Wt} {i : Nat} {x : Wt} (h : l[i]? = some x) (k : Nat) (hk : k < 3) : (itCs l)[i * 3 + k]? = (itC x)[k]? := flat_get _ 3 (fun _ => rfl) l i k x h hk
theorem elemItem : ElemOf Try.prog 115 92 3 32 := ElemOf.mk' (z := .agg #[.string ⟨#[]⟩, .int .i64 0, .int .u64 0]) Try.underlying115 (by kernel_rfl) rfl (by omega)
/-- what Pop gives of a queue with events -/
def PopOk (w : World) (B q a p mb G n : Nat) (x : Wt) (W : List Wt) (M : Int) (e : Ending) (w' : World) : Prop :=
  e = .returned (.tuple #[.int .i64 x.win, .agg #[.string ⟨x.text.toArray⟩, .int .i64 x.time, .int .u64 x.wgt], .bool true]) ∧ Q27 w' B q a p mb G n W M ∧ Keeps (QuS B w) w w'
theorem pop27 {w : World} {B q a p mb G n : Nat} {x : Wt} {W : List Wt} {M : Int} (h : Q27 w B q a p mb G n (x :: W) M) (hM : M ≤ 900) : Calls Try.prog 60 #[.pointer (some ⟨q, 0, none⟩)] w (PopOk w B q a p mb G n x W M) := by
  obtain ⟨R, E, EA, cap, D, s, L, hq, hb⟩ := h
  refine (pop_some w B q a p mb G n 200 sh27 x W R E EA cap D s L M (2 * M) hq (by omega)).mono ?_
  rintro e w' ⟨he, ⟨R', E', EA', cap', D', s', L', hq'⟩, k⟩
  exact ⟨he, ⟨R', E', EA', cap', D', s', L', hq', fun y hy => hb y (List.mem_cons_of_mem _ hy)⟩, k⟩
theorem Q27.deck {w w' : World} {B q a p mb G n Bd g : Nat} {W : List Wt} {M : Int} (h : Q27 w B q a p mb G n W M) (d : IsDeck w Bd g) (k : Keeps (· = g) w w') : Q27 w' B q a p mb G n W M := by
  obtain ⟨R, E, EA, cap, D, s, L, hq, hb⟩ := h
  obtain ⟨_, _, _, _, _, hblk, _⟩ := d
  obtain ⟨cs, hG⟩ := hq.qu.blkG
  exact ⟨R, E, EA, cap, D, s, L, ⟨hq.qu.kept k (fun e => by subst e; exact absurd (blk_type hblk hq.qu.blk) (by decide)) (fun e => by subst e; exact absurd (blk_type hblk hG) (by decide)), hq.po.kept k (fun b e => by subst e; exact .inr ⟨_, _, hblk, by decide, by decide⟩), hq.ar.kept k (fun b e => by subst e; exact .inr ⟨_, _, hblk, by decide, by decide, by decide, by decide⟩), hq.iv, Nat.le_trans hq.hB k.size, hq.kn, hq.n64⟩, hb⟩
theorem IsDeck.quS {w w' : World} {Bd g B : Nat} (d : IsDeck w Bd g) (k : Keeps (QuS B w) w w') (hB : Bd ≤ B) : IsDeck w' Bd g := by
  obtain ⟨_, _, _, _, _, hblk, _⟩ := id d
  exact d.kept k (QuS.not hblk (by decide) (by decide) (by decide) (by decide) (by decide) (by decide) (by decide)) (fun b hb h => QuS.low (by omega) h)
theorem Own.quS {w : World} {base sz n c : Nat} {A : Option Addr} {xs : List Value} (h : Own w base 92 sz A n c xs) {B b : Nat} (hb : Go.Proofs.Ytidobhflijdccaa.inB A b) : ¬ QuS B w b := by
  obtain ⟨cs, h4⟩ := h.blk hb
  exact QuS.not h4 (by decide) (by decide) (by decide) (by decide) (by decide) (by decide) (by decide)
theorem Q27.own {w w' : World} {B q a p mb G n : Nat} {W : List Wt} {M : Int} (h : Q27 w B q a p mb G n W M) {base sz k c : Nat} {A : Option Addr} {xs : List Value} (o : Own w base 92 sz A k c xs) (kk : Keeps (inB A) w w') : Q27 w' B q a p mb G n W M := by
  obtain ⟨R, E, EA, cap, D, s, L, hq, hb⟩ := h
  obtain ⟨cs, hG⟩ := hq.qu.blkG
  refine ⟨R, E, EA, cap, D, s, L, ⟨hq.qu.kept kk (fun e => ?_) (fun e => ?_), hq.po.kept kk (fun b e => ?_), hq.ar.kept kk (fun b e => ?_), hq.iv, Nat.le_trans hq.hB kk.size, hq.kn, hq.n64⟩, hb⟩
  · obtain ⟨cs, h4⟩ := o.blk e; exact absurd (blk_type h4 hq.qu.blk) (by decide)
  · obtain ⟨cs, h4⟩ := o.blk e; exact absurd (blk_type h4 hG) (by decide)
  · obtain ⟨cs, h4⟩ := o.blk e; exact .inr ⟨_, _, h4, by decide, by decide⟩
  · obtain ⟨cs, h4⟩ := o.blk e; exact .inr ⟨_, _, h4, by decide, by decide, by decide, by decide⟩
/-- events that came one after the other -/
def Came (W : List Wt) : Prop := ∀ (i : Nat) (x : Wt), W[i]? = some x → x.win = i ∧ x.text.length ≤ 8
namespace queueOrder
set_option maxRecDepth 100000 in
set_option maxHeartbeats 3000000 in
theorem main (w : World) (A1 : Option Addr) (n1 c1 : Nat) (zs : List Int) (hd : Rd w w.heap.size A1 1 n1 (zs.map (.int .i64))) (hz : ∀ z ∈ zs, -9223372036854775808 ≤ z ∧ z < 9223372036854775808) (hn1 : n1 ≤ 17592186043904) (y : Int) (y0 : 0 ≤ y) (y1 : y < 256) :
    Calls Try.prog 15 #[.slice A1 n1 c1, .int .u8 y] w fun e w' => e = .returned (.bool true) ∧ Keeps (fun _ => False) w w' := by
  have HD := hide hd
  clear hd
  go_enter Try.func15, Try.ntmps15
  go_wp2_with fail
  trace "MEM"
  refine (memory_any w).mono ?_
  rintro e w1 ⟨a, p, g, mb, B, s, L, rfl, hp, ha, hi, hwB, hB1, k1⟩
  have HP1 := hide hp
  have HA1 := hide ha
  have HI1 := hide hi
  have K1 := hide k1
  clear hp ha hi k1
  go_wp2_with fail
  trace "QNEW"
  refine (qnew_ok w1 a p 64 (by omega) (by omega)).mono ?_
  rintro e w2 ⟨q, G, rfl, hq, k2⟩
  have HQ2 := hide (Q27.new hq hB1 (HP1.out.quiet k2) (HA1.out.quiet k2) HI1.out (Nat.le_trans hB1 k2.size) (by omega))
  have K2 := hide (K1.out.trans k2)
  clear hq k2 HP1 HA1 HI1 K1
  go_wp2_with fail
  trace "DECK"
  refine (new_deck A1 n1 c1 zs w.heap.size w2 K2.out.size (HD.out.kept K2.out (fun _ _ h => h)) hz (by omega)).mono ?_
  rintro e w3 ⟨rfl, d3, k3⟩
  have HQ3 := hide (HQ2.out.quiet k3)
  have K3 := hide (K2.out.trans k3)
  have HD3 := hide d3
  have hg3 := d3.lt
  have hw23 : w2.heap.size ≤ w3.heap.size := k3.size
  have hww2 : w.heap.size ≤ w2.heap.size := K2.out.size
  have hBw2 : B ≤ w2.heap.size := by obtain ⟨_, _, _, _, _, _, _, h, _⟩ := HQ2.out; exact h.hB
  clear d3 k3 HQ2 K2 HD
  obtain ⟨N, hN, hN60⟩ : ∃ N : Nat, y % 60 = N ∧ N < 60 := ⟨(y % 60).toNat, by omega, by omega⟩
  have hyw : IntKind.i64.wrap y = y := IntWalk.i64_in _ (by omega)
  have HNN := hide hN
  clear hN
  go_upto_region 8 with fail
  trace "LOOP"
  go_loopw [11, 12, 13] (fun lv kv _ wr => ∃ (j : Nat) (W : List Wt) (D0 : Option Addr) (m0 : Nat), j ≤ N ∧ kv = .int .i64 j ∧ lv = .slice D0 j m0 ∧ Hid (W.length = j ∧ Came W) ∧ Hid (Q27 wr B q a p mb G 64 W j) ∧ Hid (Own wr w2.heap.size 92 3 D0 j m0 (itCs W)) ∧ Hid (IsDeck wr w.heap.size w2.heap.size) ∧ Hid (Keeps (fun _ => False) w wr) ∧ w2.heap.size ≤ wr.heap.size) (fun _ kv _ _ => N - (intOf kv).toNat)
  case atStart => exact ⟨0, [], none, 0, by omega, rfl, rfl, hide ⟨rfl, fun i x h => by simp at h⟩, HQ3, hide (Own.nil _ _ _ _), HD3, K3, hw23⟩
  case round =>
    obtain ⟨j, W, D0, m0, hj, rfl, rfl, HW, HQ, HO, HDk, HK, hwr⟩ := hrel
    clear HQ3 HD3 K3
    by_cases hlt : j < N
    · have HLT : Hid (j + 1 ≤ N) := hlt
      have e1 : decide ((j : Int) < y % 60) = true := by have := HNN.out; simp; omega
      go_wp2_with fail
      trace "SHORT"
      refine (short_any _ _ wr HDk.out).mono ?_
      rintro e w6 ⟨t, rfl, t2, t3, hd6, k6⟩
      have HQ6 := hide (HQ.out.deck HDk.out k6)
      have HO6 := hide (HO.out.kept k6 (fun b hb e => by subst e; obtain ⟨cs, h4⟩ := HO.out.blk hb; obtain ⟨_, _, _, _, _, hblk, _⟩ := HDk.out; exact absurd (blk_type h4 hblk) (by decide)))
      have HD6 := hide hd6
      have K6 := hide (HK.out.step k6 (fun b hb e => by omega))
      have hw6 := Nat.le_trans hwr k6.size
      clear hd6 k6 HQ HO HDk HK
      go_wp2_with fail
      trace "WEIGHT"
      refine (weightD _ _ w6 HD6.out).mono ?_
      rintro e w7 ⟨wg, rfl, wg0, wg1, hd7, k7⟩
      have HQ7 := hide (HQ6.out.deck HD6.out k7)
      have HO7 := hide (HO6.out.kept k7 (fun b hb e => by subst e; obtain ⟨cs, h4⟩ := HO6.out.blk hb; obtain ⟨_, _, _, _, _, hblk, _⟩ := HD6.out; exact absurd (blk_type h4 hblk) (by decide)))
      have HD7 := hide hd7
      have K7 := hide (K6.out.step k7 (fun b hb e => by omega))
      have hw7 := Nat.le_trans hw6 k7.size
      clear hd7 k7 HQ6 HO6 HD6 K6
      have HX := hide (Blk.new w7 92 #[.string t, .int .i64 j, .int .u64 wg])
      have kb := (Keeps.refl (fun _ => False) w7).alloc (.cells #[.string t, .int .i64 j, .int .u64 wg] 92)
      have HQ8 := hide (HQ7.out.quiet kb)
      have HO8 := hide (HO7.out.kept kb (fun _ _ h => h))
      have HD8 := hide (HD7.out.kept kb (fun h => h) (fun _ _ h => h))
      have K8 := hide (K7.out.trans kb)
      have hw8 := Nat.le_trans hw7 kb.size
      clear kb HQ7 HO7 HD7 K7
      go_upto_region 11 with fail
      trace "R11"
      generalize w7.alloc _ = w8 at *
      generalize w7.heap.size = X at *
      obtain ⟨⟨x0, x1, x2⟩, _, hX⟩ := HX.out.three
      go_wp2_with fail
      trace "PUSH"
      refine (push27 HQ8.out (by omega) (by rw [HW.out.1]; omega) (fun s E L D h i => by have := h.short (fun x hx => by obtain ⟨i, hi⟩ := List.getElem?_of_mem hx; exact (HW.out.2 i x hi).2) i; rw [HW.out.1] at this; omega) t (by omega) (by omega) j j wg ⟨wg0, wg1⟩).mono ?_
      rintro e w9 ⟨rfl, ⟨hdl, id, hq⟩, k9⟩
      have HQ9 := hide hq
      have HO9 := hide (HO8.out.kept k9 (fun b hb => HO8.out.quS hb))
      have HD9 := hide (HD8.out.quS k9 hwB)
      have K9 := hide (QuS.to0 K8.out k9 hwB)
      have HX9 := hide (HX.out.kept k9 (QuS.not HX.out (by decide) (by decide) (by decide) (by decide) (by decide) (by decide) (by decide)))
      have hw9 := Nat.le_trans hw8 k9.size
      have HW9 : Hid ((W ++ [⟨j, j, wg, hdl, id, t.data.toList⟩] : List Wt).length = j + 1 ∧ Came (W ++ [⟨j, j, wg, hdl, id, t.data.toList⟩])) := hide ⟨by simp [HW.out.1], fun i x h => by
        rw [List.getElem?_append] at h
        split at h
        · exact HW.out.2 i x h
        · next h1 =>
          rcases e : i - W.length with _ | r
          · rw [e] at h
            simp at h
            subst h
            refine ⟨by show (j : Int) = i; have := HW.out.1; omega, ?_⟩
            show t.data.toList.length ≤ 8
            have : t.data.toList.length = t.size := by rw [Array.length_toList]; rfl
            omega
          · rw [e] at h
            simp at h⟩
      have hit : itCs [⟨j, j, wg, hdl, id, t.data.toList⟩] = [.string t, .int .i64 j, .int .u64 wg] := by
        show [Value.string ⟨t.data.toList.toArray⟩, .int .i64 j, .int .u64 wg] = _
        rw [show (⟨t.data.toList.toArray⟩ : ByteArray) = t from bytes_eqQ (by simp)]
      have HIt := hide hit
      clear hq k9 HQ8 HO8 HD8 K8 HX x0 x1 x2 hX HW hit
      obtain ⟨⟨x0, x1, x2⟩, _, hX⟩ := HX9.out.three
      go_upto_region 9 with (at_builtin; refine wpList_app _ elemItem rfl (.tmp 61) (.tmp 63) rfl w2.heap.size _ rfl (HO9.out.kept ((Keeps.refl (fun _ => False) w9).alloc _) (fun _ _ h => h)) _ (m := 1) [.string t, .int .i64 j, .int .u64 wg] rfl (by exact Blk.rd (xs := [.string t, .int .i64 j, .int .u64 wg]) (Blk.new_at _ _ _ _ (by simp)) rfl) (by simp [Value.oneCell']) (by simp only [maxLen]; omega) (by omega) (by simp; omega) ?_; intro A8 c8 w10 o10 k10 hA8; have hkA := (Keeps.refl (fun _ => False) w9).alloc (.cells #[.string t, .int .i64 j, .int .u64 wg] 92); have OA := HO9.out.kept hkA (fun _ _ h => h); have HQ10 := hide ((HQ9.out.quiet hkA).own OA k10); have HD10 := hide ((HD9.out.kept hkA (fun h => h) (fun _ _ h => h)).kept k10 (fun h => by obtain ⟨cs, h4⟩ := OA.blk h; obtain ⟨_, _, _, _, _, hblk, _⟩ := HD9.out.kept hkA (fun h => h) (fun _ _ h => h); exact absurd (blk_type h4 hblk) (by decide)) (fun b hb h => by have := OA.inB h; omega)); have K10 := hide ((K9.out.trans hkA).step k10 (fun b hb h => by have := OA.inB h; omega)); have HO10 := hide o10; have hw10 := Nat.le_trans hw9 (Nat.le_trans hkA.size k10.size); clear o10 k10 hA8 hkA OA)
      trace "APP"
      clear HQ9 HO9 HD9 K9 HX9 x0 x1 x2 hX
      go_wp2_with fail
      go_roundw
      case rel =>
        refine ⟨j + 1, _, A8, c8, by omega, by go_num, rfl, HW9, HQ10, ?_, HD10, K10, hw10⟩
        rw [itCs_app, HIt.out]
        exact HO10
      case measure => have := HLT.out; simp [intOf]; omega
    · obtain rfl : j = N := by omega
      have e1 : decide ((j : Int) < y % 60) = false := by have := HNN.out; simp; omega
      clear HDk
      obtain ⟨wo, rfl⟩ : ∃ wo : World, wo = wr := ⟨_, rfl⟩
      go_upto_region 15 with fail
      trace "LOOP2"
      go_loopw [14, 15, 16, 17, 18, 67] (fun _ _ _ _ _ iv wr => ∃ r : Nat, r ≤ j ∧ iv = .int .i64 r ∧ Hid (Q27 wr B q a p mb G 64 (W.drop r) j) ∧ Hid (Own wr w2.heap.size 92 3 D0 j m0 (itCs W)) ∧ Hid (Keeps (fun _ => False) w wr)) (fun _ _ _ _ _ iv _ => j - (intOf iv).toNat)
      case atStart => exact ⟨0, by omega, rfl, HQ, HO, HK⟩
      case round =>
        obtain ⟨r, hr, rfl, HQr, HOr, HKr⟩ := hrel
        clear HQ HO HK
        by_cases hrj : r < j
        · have HRJ : Hid (r + 1 ≤ j) := hrj
          obtain ⟨x, hx⟩ : ∃ x, W[r]? = some x := ⟨W[r]'(by rw [HW.out.1]; exact hrj), by simp⟩
          have hdr : W.drop r = x :: W.drop (r + 1) := by
            rw [List.drop_eq_getElem_cons (by rw [HW.out.1]; exact hrj)]
            congr 1
            exact (List.getElem?_eq_some_iff.1 hx).2
          have hwin := (HW.out.2 r x hx).1
          obtain ⟨C, rfl, _⟩ := HOr.out.some_ (by omega)
          have c0 := HOr.out.cell (r * 3) (by omega)
          have c1 := HOr.out.cell (r * 3 + 1) (by omega)
          have c2 := HOr.out.cell (r * 3 + 2) (by omega)
          have g0 := itCs_at hx 0 (by omega)
          have g1 := itCs_at hx 1 (by omega)
          have g2 := itCs_at hx 2 (by omega)
          rw [Nat.add_zero] at g0
          rw [g0] at c0
          rw [g1] at c1
          rw [g2] at c2
          replace c0 : wr.cell? ⟨C, r * 3, none⟩ = some (.string ⟨x.text.toArray⟩) := c0
          replace c1 : wr.cell? ⟨C, r * 3 + 1, none⟩ = some (.int .i64 x.time) := c1
          replace c2 : wr.cell? ⟨C, r * 3 + 2, none⟩ = some (.int .u64 x.wgt) := c2
          have hrI : (r : Int) < (j : Int) := by omega
          have hr0 : (0 : Int) ≤ (r : Int) := by omega
          have HDr := hide hdr
          have HWin := hide hwin
          have HX := hide (Blk.new wr 92 #[.string ⟨x.text.toArray⟩, .int .i64 x.time, .int .u64 x.wgt])
          have kb := (Keeps.refl (fun _ => False) wr).alloc (.cells #[.string ⟨x.text.toArray⟩, .int .i64 x.time, .int .u64 x.wgt] 92)
          have HQ1 := hide (show Q27 (wr.alloc (.cells #[.string ⟨x.text.toArray⟩, .int .i64 x.time, .int .u64 x.wgt] 92)) B q a p mb G 64 (x :: W.drop (r + 1)) j from by rw [← HDr.out]; exact HQr.out.quiet kb)
          have HO1 := hide (HOr.out.kept kb (fun _ _ h => h))
          have K1 := hide (HKr.out.trans kb)
          clear hx hdr hwin g0 g1 g2 kb HQr HOr HKr
          go_upto_region 17 with fail
          trace "R17"
          generalize wr.alloc _ = w5 at *
          generalize wr.heap.size = X at *
          clear c0 c1 c2
          go_wp2_with fail
          trace "POP"
          refine (pop27 HQ1.out (by omega)).mono ?_
          rintro e w6 ⟨rfl, hq6, k6⟩
          have HX6 := hide (HX.out.kept k6 (QuS.not HX.out (by decide) (by decide) (by decide) (by decide) (by decide) (by decide) (by decide)))
          have HO6 := hide (HO1.out.kept k6 (fun b hb => HO1.out.quS hb))
          have K6 := hide (QuS.to0 K1.out k6 hwB)
          have HZ := hide (Blk.new w6 92 #[.string ⟨x.text.toArray⟩, .int .i64 x.time, .int .u64 x.wgt])
          have kb := (Keeps.refl (fun _ => False) w6).alloc (.cells #[.string ⟨x.text.toArray⟩, .int .i64 x.time, .int .u64 x.wgt] 92)
          have HQ7 := hide (hq6.quiet kb)
          have HO7 := hide (HO6.out.kept kb (fun _ _ h => h))
          have K7 := hide (K6.out.trans kb)
          have HX7 := hide (HX6.out.kept kb (fun h => h))
          clear hq6 k6 kb HX HO1 K1 HQ1 HX6 HO6 K6
          go_upto_region 18 with fail
          trace "R18"
          generalize w6.alloc _ = w7 at *
          generalize w6.heap.size = Z at *
          obtain ⟨⟨x0, x1, x2⟩, _, hX⟩ := HX7.out.three
          obtain ⟨⟨z0, z1, z2⟩, _, hZ⟩ := HZ.out.three
          have bw : (x.win != (r : Int)) = false := by rw [HWin.out]; simp
          go_wp2_with fail
          trace "R18b"
          go_roundw
          case rel => exact ⟨r + 1, HRJ.out, by go_num, HQ7, HO7, K7⟩
          case measure => have := HRJ.out; simp [intOf]; omega
        · obtain rfl : r = j := by omega
          have hnil : W.drop r = [] := List.drop_eq_nil_of_le (by rw [HW.out.1]; exact Nat.le_refl _)
          rw [hnil] at HQr
          obtain ⟨R, E, EA, cap, D, s, L, hq, hb⟩ := HQr.out
          obtain ⟨n1', n2, n3⟩ := hq.iv.none
          have hU := usage_inv B a s L _ wr hq.ar hq.iv.iv
          rw [n2, n3, hq.iv.fa] at hU
          have HU := hide hU
          have HQQ := hide hq
          have HN1 := hide n1'
          clear hU hq hb n1' n2 n3 hnil HW HOr HQr
          go_wp2_with fail
          trace "USAGE"
          refine HU.out.mono ?_
          rintro e w5 ⟨DU, mU, rfl, _, k5⟩
          have kb := (Keeps.refl (fun _ => False) w5).alloc (.cells #[.slice DU 3 mU, .int .i64 0, .int .i64 0] 46)
          have HX := hide (Blk.new w5 46 #[.slice DU 3 mU, .int .i64 0, .int .i64 0])
          have HQ6 := hide (HQQ.out.quiet (k5.trans kb))
          have K6 := hide (HKr.out.trans (k5.trans kb))
          clear k5 kb HU HQQ HKr
          go_upto_region 22 with fail
          trace "R22"
          generalize w5.alloc _ = w6 at *
          generalize w5.heap.size = X at *
          obtain ⟨⟨x0, x1, x2⟩, _, hX⟩ := HX.out.three
          have HL := hide (qlen_ok w6 B q a p G 64 [] R HQ6.out.qu)
          have HP : Hid (Calls Try.prog 44 #[.pointer (some ⟨p, 0, none⟩)] w6 fun e w' => e = .returned (.int .i64 0) ∧ w' = w6) := hide (by
            have := plen_ok w6 B p a mb _ _ _ _ _ HQ6.out.po HQ6.out.iv.pv.says
            rw [HN1.out] at this
            exact this)
          clear HQ6
          go_wp2_with fail
          refine HL.out.mono ?_
          rintro e w7 ⟨rfl, rfl⟩
          go_wp2_with fail
          refine HP.out.mono ?_
          rintro e w8 ⟨rfl, rfl⟩
          go_wp2_with fail
          trace "AWAKE"
          refine (awake27 _).mono ?_
          rintro e w12 ⟨rfl, k12⟩
          have K12 := hide (K6.out.trans k12)
          clear k12
          go_wp2_with fail
          go_ret
          exact ⟨rfl, K12.out⟩
theorem walk (w : World) (A1 : Option Addr) (n1 c1 : Nat) (z1 : List Int) (r1 : Rd w w.heap.size A1 1 n1 (z1.map (.int .i64))) (b1 : ∀ z ∈ z1, -9223372036854775808 ≤ z ∧ z < 9223372036854775808) (s1 : n1 * 8 ≤ 140737488351232) (l1 : n1 ≤ c1)
    (y : Int) (y0 : 0 ≤ y) (y1 : y < 256) :
    Calls Try.prog 15 #[.slice A1 n1 c1, .int .u8 y] w fun e w' => e = .returned (.bool true) ∧ Below w.heap.size w w' :=
  (main w A1 n1 c1 z1 r1 b1 (by omega) y y0 y1).mono fun e w' ⟨he, hk⟩ => ⟨he, hk.done⟩
end queueOrder
end Go.Proofs.Ytidobhflijdccaa
