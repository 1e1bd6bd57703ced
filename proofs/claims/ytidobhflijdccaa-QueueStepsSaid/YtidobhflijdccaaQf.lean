/-
  The memory of law 27, and its example. No conditions beyond those of the statement.
-/
import Derived.Test.YtidobhflijdccaaQe
set_option linter.unusedVariables false
set_option linter.unusedSimpArgs false
namespace Go.Proofs.Ytidobhflijdccaa
open Go.RowKit Cfp
def sh27 : List (Int × Int) := [(8, 100), (24, 100), (256, 100)]
/-- an arena and a pool, both empty -/
def Mems (w : World) (e : Ending) (w' : World) : Prop :=
  ∃ (a p g mb B : Nat) (s : Ar) (L : Nat → List Nat), e = .returned (.tuple #[.pointer (some ⟨a, 0, none⟩), .pointer (some ⟨p, 0, none⟩), .bool true]) ∧ IsPo w' B p a 200 [PE.zero] (some ⟨g, 0, none⟩) 1 mb (.map []) ∧ IsAr w' B a s ∧ QInv sh27 [] [PE.zero] s L (.map []) 0 0 ∧ w.heap.size ≤ B ∧ B ≤ w'.heap.size ∧ Keeps (fun _ => False) w w'
set_option maxRecDepth 100000 in
theorem memory_any (w : World) : Calls Try.prog 59 #[.int .i64 100] w (Mems w) := by
  have k1 := (Keeps.refl (fun _ => False) w).alloc (.cells #[.int .i64 8, .int .i64 100, .int .i64 24, .int .i64 100, .int .i64 256, .int .i64 100] 37)
  have r1 := (show Blk (w.alloc (.cells #[.int .i64 8, .int .i64 100, .int .i64 24, .int .i64 100, .int .i64 256, .int .i64 100] 37)) w.heap.size 37 (prs sh27).toArray from Blk.new _ _ _).rd (n := 3) (sz := 2) rfl
  have HN := hide (anew_ok sh27 rfl (some ⟨w.heap.size, 0, none⟩) 3 3 _ _ r1 (Nat.le_refl _))
  have K1 := hide k1
  clear k1 r1
  go_enter Try.func59, Try.ntmps59
  go_wp2_with fail
  trace "NEW"
  refine HN.out.mono ?_
  rintro e w1 ⟨a, CA, c, rfl, h1, k1⟩
  obtain ⟨B, hBe⟩ : ∃ B, B = (w.alloc (.cells #[.int .i64 8, .int .i64 100, .int .i64 24, .int .i64 100, .int .i64 256, .int .i64 100] 37)).heap.size := ⟨_, rfl⟩
  rw [← hBe] at h1
  have hwB : w.heap.size ≤ B := by rw [hBe]; exact K1.out.size
  have hB1 : B ≤ w1.heap.size := by rw [hBe]; exact k1.size
  have H1 := hide h1
  have K2 := hide (K1.out.trans k1)
  clear h1 k1 K1 hBe HN
  go_wp2_with fail
  trace "PNEW"
  refine (pnew_ok w1 a 200 (by omega) (by omega)).mono ?_
  rintro e w2 ⟨p, g, mb, rfl, h2, k2⟩
  have HP2 := hide (show IsPo w2 B p a 200 [PE.zero] (some ⟨g, 0, none⟩) 1 mb (.map []) from ⟨Nat.le_trans hB1 h2.le, h2.blk, h2.own.base_le hB1, Nat.le_trans hB1 h2.lem, h2.map⟩)
  have HA2 := hide (H1.out.quiet k2)
  have K3 := hide (K2.out.trans k2)
  have hB2 := Nat.le_trans hB1 k2.size
  clear h2 k2 K2 H1
  go_wp2_with fail
  trace "END"
  refine bodyPost_ret (v := .tuple #[.pointer (some ⟨a, 0, none⟩), .pointer (some ⟨p, 0, none⟩), .bool true]) (by simp [results, Try.results59, go_sem]) rfl ?_
  exact ⟨a, p, g, mb, B, _, _, rfl, HP2.out, HA2.out, QInv.zero sh27 (inv_new sh27 rfl CA c 3 rfl) rfl (fun i => by rcases i with _ | _ | _ | i <;> rfl) rfl, hwB, hB2, K3.out⟩
theorem fit27 (size : Int) : fitS sh27 size = if size ≤ 8 then 0 else if size ≤ 24 then 1 else if size ≤ 256 then 2 else 3 := by
  unfold fitS sh27
  simp only [List.findIdx_cons, List.findIdx_nil]
  by_cases h1 : size ≤ 8
  · simp [h1]
  · by_cases h2 : size ≤ 24
    · simp [h1, h2]
    · by_cases h3 : size ≤ 256 <;> simp [h1, h2, h3]
theorem noslot27 {lv : List Int} {size c : Int} (h1 : 1 ≤ size) (h2 : size ≤ 256) (hl : ∀ i, lv.getD i 0 < 100) : ¬ NoSlotL sh27 lv size c := by
  rintro (⟨_, h | h⟩ | ⟨_, i, x, hx, hf, he⟩)
  · omega
  · have := h (256, 100) (by simp [sh27]); dsimp only at this; omega
  · have h3 : x.2 = 100 := by
      have := List.mem_of_getElem? hx
      simp [sh27] at this
      rcases this with rfl | rfl | rfl <;> rfl
    have := hl i
    omega
/-- with few events nothing is refused -/
theorem push_sure {n : Nat} {W : List Wt} {lv : List Int} {key : List UInt8} {c : Int} (h : PushNo n 200 sh27 W lv key c) (hl : W.length < n) (hn : W.length < 200) (hk1 : 1 ≤ key.length) (hk2 : key.length ≤ 255) (hlv : ∀ i, lv.getD i 0 < 99) : False := by
  rcases h with ⟨h, _⟩ | ⟨_, h, _⟩ | ⟨_, h, _⟩ | ⟨_, _, _, h⟩
  · omega
  · rw [h] at hk1; simp at hk1
  · omega
  · rcases h with h | ⟨h, _⟩ | ⟨lv1, h1, h⟩
    · exact noslot27 (by omega) (by omega) (fun i => by have := hlv i; omega) h
    · omega
    · refine noslot27 (by omega) (by omega) (fun i => ?_) h
      rw [h1]
      have := hlv i
      split <;> omega
theorem QInv.livesB {W : List Wt} {E : List PE} {s : Ar} {L : Nat → List Nat} {D : KD} {M M2 : Int} (h : QInv sh27 W E s L D M M2) (i : Nat) : (livesA s).getD i 0 ≤ 2 * W.length := by
  by_cases hi : i < sh27.length
  · rw [h.lv i hi]
    have h1 := cntF_le sh27 i E
    have h2 := h.cnt
    split <;> omega
  · have : (livesA s).length = sh27.length := h.lenL
    rw [List.getD, List.getElem?_eq_none (by omega)]
    simp only [Option.getD_none]
    omega
/-- a queue in that memory -/
def Q27 (w : World) (B q a p mb G n : Nat) (W : List Wt) (M : Int) : Prop := ∃ (R : List Wt) (E : List PE) (EA : Option Addr) (cap : Nat) (D : KD) (s : Ar) (L : Nat → List Nat), Qu w B q a p mb G n 200 sh27 W R E EA cap D s L M (2 * M) ∧ WgB W
section
variable {w w' : World} {B q a p mb G n : Nat} {W : List Wt} {M : Int}
theorem Q27.quiet (h : Q27 w B q a p mb G n W M) (k : Keeps (fun _ => False) w w') : Q27 w' B q a p mb G n W M := by
  obtain ⟨R, E, EA, cap, D, s, L, h1, h2⟩ := h
  exact ⟨R, E, EA, cap, D, s, L, h1.quiet k, h2⟩
theorem Q27.low {g : Nat} (h : Q27 w B q a p mb G n W M) (k : Keeps (· = g) w w') (hg : g < B) : Q27 w' B q a p mb G n W M := by
  obtain ⟨R, E, EA, cap, D, s, L, h1, h2⟩ := h
  exact ⟨R, E, EA, cap, D, s, L, h1.low k hg, h2⟩
theorem Q27.new {g : Nat} {s : Ar} {L : Nat → List Nat} {B1 : Nat} (hq : IsQ w B1 q a p G n [] (List.replicate n Wt.zero)) (hb : B ≤ B1) (hp : IsPo w B p a 200 [PE.zero] (some ⟨g, 0, none⟩) 1 mb (.map [])) (ha : IsAr w B a s) (hi : QInv sh27 [] [PE.zero] s L (.map []) 0 0) (hB : B ≤ w.heap.size) (hn : n ≤ 64) : Q27 w B q a p mb G n [] 0 :=
  ⟨_, _, _, _, _, _, _, ⟨⟨Nat.le_trans hb hq.le, hq.blk, hq.own.base_le hb⟩, hp, ha, hi, hB, by show ((0 : Nat) : Int) ≤ 200; omega, hn⟩, by intro x hx; simp at hx⟩
/-- what Push of an event that fits gives -/
def PushOk (w : World) (B q a p mb G n : Nat) (W : List Wt) (M : Int) (win time wgt : Int) (key : List UInt8) (e : Ending) (w' : World) : Prop :=
  e = .returned (.int .i64 0) ∧ (∃ (h : Hd) (id : Nat), Q27 w' B q a p mb G n (W ++ [⟨win, time, wgt, h, id, key⟩]) (M + 1)) ∧ Keeps (QuS B w) w w'
theorem push27 (h : Q27 w B q a p mb G n W M) (hM : 0 ≤ M ∧ M ≤ 900) (hl : W.length < n) (hs : ∀ (s : Ar) (E : List PE) (L : Nat → List Nat) (D : KD), QInv sh27 W E s L D M (2 * M) → ∀ i, (livesA s).getD i 0 < 99) (t : ByteArray) (h1 : 1 ≤ t.size) (h2 : t.size ≤ 255) (win time wgt : Int) (hw : 0 ≤ wgt ∧ wgt < 18446744073709551616) :
    Calls Try.prog 57 #[.pointer (some ⟨q, 0, none⟩), .int .i64 win, .agg #[.string t, .int .i64 time, .int .u64 wgt]] w (PushOk w B q a p mb G n W M win time wgt t.data.toList) := by
  obtain ⟨R, E, EA, cap, D, s, L, hq, hb⟩ := h
  have hlen : t.data.toList.length = t.size := by rw [Array.length_toList]; rfl
  refine (push_main w B q a p mb G n 200 sh27 W R E EA cap D s L M (2 * M) t win time wgt hq hl (by omega) (by omega) h1 h2).mono ?_
  intro e w' hp
  rcases hp with ⟨c, _, _, _, _, _, _, _, _, _, _, hc, _⟩ | ⟨hd, id, R', E', EA', cap', D', s', L', he, _, _, hq', k⟩
  · exact (push_sure hc hl (by have := hq.n64; omega) (by omega) (by omega) (hs s E L D hq.iv)).elim
  · refine ⟨he, ⟨hd, id, R', E', EA', cap', D', s', L', ?_, fun x hx => ?_⟩, k⟩
    · have : 2 * (M + 1) = 2 * M + 2 := by omega
      rw [this]
      exact hq'
    · rcases List.mem_append.1 hx with hx | hx
      · exact hb x hx
      · rw [List.mem_singleton.1 hx]; exact hw
end
/-- windows, weights and texts -/
def Three (W : List Wt) (l : List Int) : Prop := W.map (fun x => (x.win, x.wgt, x.text)) = l.map (fun z => (z, 4, [97]))
theorem Three.all {W : List Wt} (h : Three W [2, 1, 3]) : W.length = 3 ∧ untilN 1 W = 2 ∧ untilN 0 W = 0 ∧ wgtF 1 [97] W = 4 := by
  unfold Three at h
  rcases W with _ | ⟨x, _ | ⟨y, _ | ⟨z, _ | ⟨u, W⟩⟩⟩⟩
  · simp at h
  · simp at h
  · simp at h
  · simp at h
    obtain ⟨⟨h1, h2, h3⟩, ⟨h4, h5, h6⟩, h7, h8, h9⟩ := h
    refine ⟨rfl, ?_, ?_, ?_⟩
    · simp [untilN, h1, h4, h7]
    · simp [untilN, h1, h4, h7]
    · simp [wgtF, h1, h2, h3, h4, h5, h6, h7, h8, h9, Sat.add]
  · simp at h
set_option maxRecDepth 100000 in
set_option maxHeartbeats 1000000 in
theorem awake27 (w : World) : Calls Try.prog 58 #[] w fun e w' => e = .returned (.bool true) ∧ Keeps (fun _ => False) w w' := by
  go_enter Try.func58, Try.ntmps58
  go_wp2_with fail
  trace "MEM"
  refine (memory_any w).mono ?_
  rintro e w1 ⟨a, p, g, mb, B, s, L, rfl, hp, ha, hi, hwB, hB1, k1⟩
  have HP1 := hide hp
  have HA1 := hide ha
  have HI1 := hide hi
  have K1 := hide k1
  clear hp ha hi k1
  go_wp2_with fail
  trace "QNEW"
  refine (qnew_ok w1 a p 5 (by omega) (by omega)).mono ?_
  rintro e w2 ⟨q, G, rfl, hq, k2⟩
  have HQ2 := hide (Q27.new hq hB1 (HP1.out.quiet k2) (HA1.out.quiet k2) HI1.out (Nat.le_trans hB1 k2.size) (by omega))
  have K2 := hide (K1.out.trans k2)
  clear hq k2 HP1 HA1 HI1 K1
  go_upto_region 6 with fail
  trace "LOOP"
  have BL := hide (Blk.new w2 3 #[.int .i64 2, .int .i64 1, .int .i64 3])
  have kl := (Keeps.refl (fun _ => False) w2).alloc (.cells #[.int .i64 2, .int .i64 1, .int .i64 3] 3)
  have HQ3 := hide (HQ2.out.quiet kl)
  have K3 := hide (K2.out.trans kl)
  clear kl HQ2 K2
  generalize w2.alloc _ = w3 at *
  generalize w2.heap.size = XL at *
  go_loopw [7, 31] (fun _ iv wr => ∃ (i : Nat) (W : List Wt), i ≤ 3 ∧ iv = .int .i64 i ∧ Hid (W.length = i ∧ Three W (([2, 1, 3] : List Int).take i)) ∧ Hid (Q27 wr B q a p mb G 5 W i) ∧ Hid (Blk wr XL 3 #[.int .i64 2, .int .i64 1, .int .i64 3]) ∧ Hid (Keeps (fun _ => False) w wr)) (fun _ iv _ => 3 - (intOf iv).toNat)
  case atStart => exact ⟨0, [], by omega, rfl, hide ⟨rfl, rfl⟩, HQ3, BL, K3⟩
  case round =>
    obtain ⟨i, W, hi, rfl, HW, HQ, HB, HK⟩ := hrel
    clear HQ3 K3 BL
    by_cases hlt : i < 3
    · have HLT : Hid (i + 1 ≤ 3) := hlt
      obtain ⟨v, hv, hvt⟩ : ∃ v, wr.cell? ⟨XL, i, none⟩ = some (.int .i64 v) ∧ ([2, 1, 3] : List Int).take (i + 1) = ([2, 1, 3] : List Int).take i ++ [v] := by
        have := HB.out.cell i
        rcases i with _ | _ | _ | i
        · exact ⟨_, this, rfl⟩
        · exact ⟨_, this, rfl⟩
        · exact ⟨_, this, rfl⟩
        · omega
      have hiI : (i : Int) < 3 := by omega
      have hi0 : (0 : Int) ≤ (i : Int) := by omega
      have HVt := hide hvt
      clear hvt
      go_wp2_with fail
      trace "PUSH"
      refine (push27 HQ.out (by omega) (by rw [HW.out.1]; omega) (fun s E L D h j => by have := h.livesB j; rw [HW.out.1] at this; omega) ⟨#[97]⟩ (by decide) (by decide) v 0 4 (by omega)).mono ?_
      rintro e w5 ⟨rfl, ⟨hd, id, hq⟩, k5⟩
      have HQ5 := hide (show Q27 w5 B q a p mb G 5 (W ++ [⟨v, 0, 4, hd, id, [97]⟩]) (i + 1) from hq)
      have HB5 := hide (HB.out.kept k5 (QuS.not HB.out (by decide) (by decide) (by decide) (by decide) (by decide) (by decide) (by decide)))
      have K5 := hide (QuS.to0 HK.out k5 hwB)
      have HW5 : Hid ((W ++ [⟨v, 0, 4, hd, id, [97]⟩] : List Wt).length = i + 1 ∧ Three (W ++ [⟨v, 0, 4, hd, id, [97]⟩]) (([2, 1, 3] : List Int).take (i + 1))) := hide ⟨by simp [HW.out.1], by
        have := HW.out.2
        unfold Three at this ⊢
        rw [HVt.out, List.map_append, List.map_append, this]
        rfl⟩
      clear hq k5 HQ HB HK HW hv
      go_wp2_with fail
      go_roundw
      case rel => exact ⟨i + 1, _, HLT.out, by go_num, HW5, HQ5, HB5, K5⟩
      case measure => have := HLT.out; simp [intOf]; omega
    · obtain rfl : i = 3 := by omega
      obtain ⟨t1, t2, t3, t4⟩ := HW.out.2.all
      obtain ⟨R, E, EA, cap, D, s, L, hq, hb⟩ := HQ.out
      have HU1 := hide (quntil_ok wr B q a p G 5 W R hq.qu (by omega) 1)
      have HU0 := hide (quntil_ok wr B q a p G 5 W R hq.qu (by omega) 0)
      have HL := hide (qlen_ok wr B q a p G 5 W R hq.qu)
      have HG := hide (qweight_ok wr B q a p mb G 5 200 sh27 W R E EA cap D s L _ _ hq (by omega) hb 1 ⟨#[97]⟩)
      rw [t2] at HU1
      rw [t3] at HU0
      rw [t1] at HL
      rw [show (⟨#[97]⟩ : ByteArray).data.toList = [97] from rfl, t4] at HG
      clear t1 t2 t3 t4 hq hb HQ HB HW
      go_wp2_with fail
      trace "UNTIL"
      refine HU1.out.mono ?_
      rintro e w6 ⟨rfl, rfl⟩
      go_wp2_with fail
      refine HU0.out.mono ?_
      rintro e w7 ⟨rfl, rfl⟩
      go_wp2_with fail
      refine HL.out.mono ?_
      rintro e w8 ⟨rfl, rfl⟩
      go_wp2_with fail
      refine HG.out.mono ?_
      rintro e w9 ⟨rfl, k9⟩
      have K9 := hide (HK.out.trans k9)
      clear k9
      go_wp2_with fail
      go_ret
      exact ⟨rfl, K9.out⟩
theorem pop_nil (w : World) : Calls Try.prog 60 #[.pointer none] w fun e w' => e = .returned (.tuple #[.int .i64 0, .agg #[.string ⟨#[]⟩, .int .i64 0, .int .u64 0], .bool false]) ∧ Keeps (fun _ => False) w w' := by
  have kb := (Keeps.refl (fun _ => False) w).alloc (.cells #[.string ⟨#[]⟩, .int .i64 0, .int .u64 0] 92)
  have HX := hide (Blk.new w 92 #[.string ⟨#[]⟩, .int .i64 0, .int .u64 0])
  have K1 := hide kb
  clear kb
  go_enter Try.func60, Try.ntmps60
  go_upto_region 1 with fail
  generalize w.alloc _ = w1 at *
  generalize hXX : w.heap.size = X at *
  have hX1 := HX.out.lt
  have b3 := hide (((HX.out.set 0 (.string ⟨#[]⟩)).set 1 (.int .i64 0)).set 2 (.int .u64 0))
  have K3 := hide (((K1.out.setCell (p := ⟨X, 0, none⟩) (.inr (by show w.heap.size ≤ X; omega)) (.string ⟨#[]⟩)).setCell (p := ⟨X, 1, none⟩) (.inr (by show w.heap.size ≤ X; omega)) (.int .i64 0)).setCell (p := ⟨X, 2, none⟩) (.inr (by show w.heap.size ≤ X; omega)) (.int .u64 0))
  obtain ⟨⟨x0, x1, x2⟩, ⟨f0, f1, f2⟩, hX⟩ := HX.out.three
  clear hXX
  go_wp2_with fail
  generalize ((w1.setCell _ _).setCell _ _).setCell _ _ = w3 at *
  have r0 := b3.out.cell 0
  have r1 := b3.out.cell 1
  have r2 := b3.out.cell 2
  refine bodyPost_ret (v := .tuple #[.int .i64 0, .agg #[.string ⟨#[]⟩, .int .i64 0, .int .u64 0], .bool false]) (by simp [results, Try.results60, go_sem, r0, r1, r2]) rfl ?_
  exact ⟨rfl, K3.out⟩
end Go.Proofs.Ytidobhflijdccaa
