/-
  Deck.Summary: what it draws, as plain lists; a key of one byte. No conditions beyond those of the statement. Deck.Summary: a new entry. No conditions beyond those of the statement. Deck.Summary: its other regions that draw. No conditions beyond those of the statement. Deck.Summary: the loop that draws the entries. No conditions beyond those of the statement. Deck.Summary: the loops that draw the rows. No conditions beyond those of the statement.
-/
import Derived.Test.YtaiopdipldaimaaGJ
import Derived.Test.YtaiopdipldaimaaDeck
import Derived.Test.YtaiopdipldaimaaShort
import Derived.Test.YtaiopdipldaimaaCmp
import Derived.Deep.RegionWith
import Derived.Deep.RegionHeld3
import Derived.OrdersHeld
import Derived.Deep.CutBlock
import Derived.Deep.CutRange
import Derived.Test.YtaiopdipldaimaaGG
set_option linter.unusedVariables false
set_option linter.unusedSimpArgs false
namespace Go.Proofs.Ytaiopdipldaimaa
open Go.RowKit
def keyOf (n : Nat) : ByteArray := ⟨#[n.toUInt8]⟩
theorem keyOf_list (n : Nat) : (keyOf n).toList = [n.toUInt8] := by rw [ByteArray.toList_eq]; rfl
theorem keyOf_size (n : Nat) : (keyOf n).size = 1 := rfl
theorem keyOf_lt {a b : Nat} (h : a < b) (hb : b < 256) : bl (keyOf a).toList (keyOf b).toList = true := by
  rw [keyOf_list, keyOf_list]
  have h1 : a.toUInt8 < b.toUInt8 := by
    rw [UInt8.lt_iff_toNat_lt]
    show a % 256 < b % 256
    omega
  simp [bl, Op.bytesLess, h1]
theorem run_conv1w (y : Int) (y0 : 0 ≤ y) (y1 : y < 256) (W : World) (b : Nat) (hc : W.cell? ⟨b, 0, none⟩ = some (.int .u8 y)) : (convert 46 9 (.slice (some ⟨b, 0, none⟩) 1 1)).run Try.prog W = .ok (.string (keyOf y.toNat)) W := by
  refine run_convert_bytes_back (P := Try.prog) W 46 9 5 ⟨b, 0, none⟩ 1 [y.toNat.toUInt8] Try.underlying46 Try.underlying5 Try.underlying9 ?_
  intro j hj
  obtain rfl : j = 0 := by simpa using hj
  have h2 : (y.toNat.toUInt8.toNat : Int) = y := by
    show ((y.toNat % 256 : Nat) : Int) = _
    omega
  rw [show (⟨b, 0, none⟩ : Addr).add 0 = ⟨b, 0, none⟩ from by simp [Addr.add], hc]
  show some (Value.int .u8 y) = some (Value.int .u8 (y.toNat.toUInt8.toNat : Int))
  rw [h2]
/-- the entries that were drawn so far: what is left of the total, the last key's byte -/
structure EOk (tot left : Int) (kb : Nat) (l : List Ln) : Prop where
  sum : (l.map Ln.lo).sum + left = tot
  own : ∀ x ∈ l, 1 ≤ x.lo ∧ 0 ≤ x.hi ∧ x.lo + x.hi ≤ tot
  key : ∀ x ∈ l, ∃ n : Nat, 97 < n ∧ n ≤ kb ∧ x.key = keyOf n
  asc : l.Pairwise (fun a b => bl a.key.toList b.key.toList = true)
  left0 : 0 ≤ left
theorem EOk.nil (tot : Int) (h : 0 ≤ tot) (kb : Nat) : EOk tot tot kb [] := ⟨by simp, fun x hx => (by cases hx), fun x hx => (by cases hx), List.Pairwise.nil, h⟩
theorem EOk.snoc {tot left : Int} {kb : Nat} {l : List Ln} (h : EOk tot left kb l) (h97 : 97 ≤ kb) (n : Nat) (hn : kb < n) (hn2 : n < 256) (own sl : Int) (o1 : 1 ≤ own) (o2 : own ≤ left) (s0 : 0 ≤ sl) (s1 : own + sl ≤ tot) : EOk tot (left - own) n (l ++ [⟨keyOf n, own, sl⟩]) := by
  refine ⟨by rw [List.map_append, List.sum_append]; have := h.sum; simp; omega, fun x hx => ?_, fun x hx => ?_, ?_, by omega⟩
  · rcases List.mem_append.1 hx with h1 | h1
    · exact h.own x h1
    · obtain rfl : x = _ := by simpa using h1
      exact ⟨o1, s0, s1⟩
  · rcases List.mem_append.1 hx with h1 | h1
    · obtain ⟨m, m1, m2, m3⟩ := h.key x h1
      exact ⟨m, m1, by omega, m3⟩
    · obtain rfl : x = _ := by simpa using h1
      exact ⟨n, by omega, Nat.le_refl _, rfl⟩
  · rw [List.pairwise_append]
    refine ⟨h.asc, List.pairwise_singleton _ _, fun a ha b hb => ?_⟩
    obtain rfl : b = _ := by simpa using hb
    obtain ⟨m, m1, m2, m3⟩ := h.key a ha
    rw [m3]
    exact keyOf_lt (by omega) hn2
/-- the rows that were drawn so far -/
def ROk (tot : Int) (wd : Nat) (R : Cmp.Rows) : Prop := ∀ r ∈ R, r.length = wd ∧ ∀ z ∈ r, 0 ≤ z ∧ z ≤ tot
end Go.Proofs.Ytaiopdipldaimaa

set_option linter.unusedVariables false
set_option linter.unusedSimpArgs false
namespace Go.Proofs.Ytaiopdipldaimaa
open Go.RowKit
namespace dsum
def findReg (q : Nat) : Code → Option Code
  | .region id ops b => if id = q then some (.region id ops b) else none
  | .loop c => findReg q c
  | .seq a b => match findReg q a with
    | some c => some c
    | none => findReg q b
  | .block _ c => findReg q c
  | .scope c => findReg q c
  | .cond _ a b => match findReg q a with
    | some c => some c
    | none => findReg q b
  | _ => none
def NormPost (W : Act → World → Prop) : Exit → Act → World → Prop
  | .normal, a, w => W a w
  | _, _, _ => False
noncomputable def rg10 : Code := ((Try.f24.body.bind (findReg 10)).getD .skip)
/-- an entry in a block of its own -/
def NewE (w1 : World) (B g : Nat) (left y : Int) (gx : Nat) (w' : World) : Prop :=
  ∃ own : Int, 1 ≤ own ∧ own ≤ left ∧ Blk w' gx 99 #[.string (keyOf y.toNat), .int .u64 own, .int .u64 0] ∧ w1.heap.size ≤ gx ∧ IsDeck w' B g ∧ Keeps (· = g) w1 w'
set_option maxRecDepth 1000000 in
set_option maxHeartbeats 4000000 in
theorem reg10 (B g : Nat) (w1 : World) (left y : Int) (l1 : 1 ≤ left) (l2 : left ≤ 9223372036854775808) (y0 : 0 ≤ y) (y1 : y < 256) (hD : IsDeck w1 B g) (s1 s2 s3 s4 s5 s8 s9 s10 s11 s12 s13 s14 s15 s16 s17 s18 s19 s20 s21 s22 s23 s24 s25 s26 s27 s28 s29 s30 s31 s32 s33 s34 s35 s36 s37 s38 s39 s40 s41 s42 s43 s44 s45 s46 s47 s48 s49 s50 s51 s52 s53 s54 s55 s56 s57 s58 s59 s60 s61 s62 s63 s64 s65 s66 s67 s68 s69 s70 s71 s72 s73 s74 s75 s76 s77 s78 s79 s80 s81 s82 s83 s84 s85 s86 s87 s88 s89 s90 s91 s92 s93 s94 s95 s96 s97 s98 s99 s100 s101 s102 s103 s104 s105 s106 s107 s108 s109 s110 s111 s112 s113 s114 s115 s116 s117 : Value) :
    Code.wp Try.prog rg10 (NormPost fun a' w' => ∃ gx, NewE w1 B g left y gx w' ∧ (∃ u44 u45 u46 u47 u48 u49 u50 u51 u52 u53 : Value, a' = ⟨#[.pointer (some ⟨g, 0, none⟩), s1, s2, s3, s4, s5, .int .u64 left, .int .u8 y, s8, .pointer (some ⟨gx, 0, none⟩), s10, s11, s12, s13, s14, s15, s16, s17, s18, s19, s20, s21, s22, s23, s24, s25, s26, s27, s28, s29, s30, s31, s32, s33, s34, s35, s36, s37, s38, s39, s40, s41, s42, s43, u44, u45, u46, u47, u48, u49, u50, u51, u52, u53, s54, s55, s56, s57, s58, s59, s60, s61, s62, s63, s64, s65, s66, s67, s68, s69, s70, s71, s72, s73, s74, s75, s76, s77, s78, s79, s80, s81, s82, s83, s84, s85, s86, s87, s88, s89, s90, s91, s92, s93, s94, s95, s96, s97, s98, s99, s100, s101, s102, s103, s104, s105, s106, s107, s108, s109, s110, s111, s112, s113, s114, s115, s116, s117], []⟩)) ⟨#[.pointer (some ⟨g, 0, none⟩), s1, s2, s3, s4, s5, .int .u64 left, .int .u8 y, s8, s9, s10, s11, s12, s13, s14, s15, s16, s17, s18, s19, s20, s21, s22, s23, s24, s25, s26, s27, s28, s29, s30, s31, s32, s33, s34, s35, s36, s37, s38, s39, s40, s41, s42, s43, s44, s45, s46, s47, s48, s49, s50, s51, s52, s53, s54, s55, s56, s57, s58, s59, s60, s61, s62, s63, s64, s65, s66, s67, s68, s69, s70, s71, s72, s73, s74, s75, s76, s77, s78, s79, s80, s81, s82, s83, s84, s85, s86, s87, s88, s89, s90, s91, s92, s93, s94, s95, s96, s97, s98, s99, s100, s101, s102, s103, s104, s105, s106, s107, s108, s109, s110, s111, s112, s113, s114, s115, s116, s117], []⟩ w1 := by
  have hg := hD.lt
  have hBg := hD.le
  have hl0 : (left == 0) = false := by simp; omega
  have hlz : ¬ left = 0 := by omega
  have KK := hide (Keeps.drew (Keeps.refl (· = g) w1))
  have DK := hide (IsDeck.drew hD)
  have KS : ∀ (W : World) (gx : Nat) (a b c : Value), Keeps (· = gx) W (((W.setCell ⟨gx, 0, none⟩ a).setCell ⟨gx, 1, none⟩ b).setCell ⟨gx, 2, none⟩ c) := fun W gx a b c => Keeps.setCell (S := (· = gx)) (p := ⟨gx, 2, none⟩) (Keeps.setCell (S := (· = gx)) (p := ⟨gx, 1, none⟩) (Keeps.setCell (S := (· = gx)) (p := ⟨gx, 0, none⟩) (Keeps.refl _ _) (.inl rfl) _) (.inl rfl) _) (.inl rfl) _
  clear hD
  conv => arg 2; whnf
  dsimp only
  refine wp_region_held_drew (S := fun _ => True) (by kernel_rfl) trivial (fun hHeld => ?_)
  refine wpAnyH_take (i := 0) (v := ?_) rfl (by kernel_rfl) (by kernel_rfl) (by kernel_rfl) (fun _ _ _ h => h) (Or.inl ⟨by kernel_rfl, ?_⟩) (by trivial) ?_; rotate_left; focus (intro w hSw; (try dsimp only at hSw); go_simp; try (with_reducible rfl)); (try simp only [Act.put, List.setIfInBounds_toArray, List.set_cons_zero, List.set_cons_succ])
  refine wpAnyH_take (i := 3) (v := ?_) rfl (by kernel_rfl) (by kernel_rfl) (by kernel_rfl) (fun _ _ _ h => h) (Or.inl ⟨by kernel_rfl, ?_⟩) (by trivial) ?_; rotate_left; focus (intro w hSw; (try dsimp only at hSw); go_simp; try (with_reducible rfl)); (try simp only [Act.put, List.setIfInBounds_toArray, List.set_cons_zero, List.set_cons_succ])
  refine wpAnyH_take (i := 6) (v := ?_) rfl (by kernel_rfl) (by kernel_rfl) (by kernel_rfl) (fun _ _ _ h => h) (Or.inl ⟨by kernel_rfl, ?_⟩) (by trivial) ?_; rotate_left; focus (intro w hSw; (try dsimp only at hSw); go_simp; try (with_reducible rfl)); (try simp only [Act.put, List.setIfInBounds_toArray, List.set_cons_zero, List.set_cons_succ])
  generalize hWd : w1.drew = W0 at *
  refine wpAnyH_ready (rs := [1, 4, 10]) (by kernel_rfl) (by simp) ?_
  refine AllReadyH.cons rfl (fun K hK => ?_) (AllReadyH.cons rfl (fun K hK => ?_) (AllReadyH.cons rfl (fun K hK => ?_) AllReadyH.nil))
  · go_simp
    have kA := (Keeps.refl (fun _ => False) W0).alloc (.cells #[.int .u8 y] 5)
    have CE : Hid ((W0.alloc (.cells #[.int .u8 y] 5)).cell? ⟨W0.heap.size, 0, none⟩ = some (.int .u8 y)) := hide ((Blk.new W0 5 #[.int .u8 y]).cell 0)
    have KS0 := hide KK.out.size
    have KK := hide (KK.out.step0 kA)
    have DK := hide (DK.out.kept kA (fun h => h) (fun _ _ h => h))
    clear kA
    refine hK.out _ _ trivial (fun hHeld => ?_)
    clear hK K
    generalize W0.alloc _ = W1 at *
    have HGB : w1.heap.size ≤ W0.heap.size := KS0.out
    generalize W0.heap.size = gb at *
    (try simp only [Act.put, List.setIfInBounds_toArray, List.set_cons_zero, List.set_cons_succ])
    refine wpAnyH_ready (rs := [2, 4, 10]) (by kernel_rfl) (by simp) ?_
    refine AllReadyH.cons rfl (fun K hK => ?_) (AllReadyH.cons rfl (fun K hK => ?_) (AllReadyH.cons rfl (fun K hK => ?_) AllReadyH.nil))
    · have hcv := run_conv1w y y0 y1 W1 gb CE.out
      go_simp
      refine hK.out _ _ trivial (fun hHeld => ?_)
      clear hK K hcv CE
      (try simp only [Act.put, List.setIfInBounds_toArray, List.set_cons_zero, List.set_cons_succ])
      (try simp only [Act.put, List.setIfInBounds_toArray, List.set_cons_zero, List.set_cons_succ])
      refine wpAnyH_ready (rs := [4, 10]) (by kernel_rfl) (by simp) ?_
      refine AllReadyH.cons rfl (fun K hK => ?_) (AllReadyH.cons rfl (fun K hK => ?_) AllReadyH.nil)
      · go_simp
        go_at_call 48
        refine (next_any _ (by omega) (by omega) B g W1 DK.out).mono ?_
        rintro e W3 ⟨x, rfl, x0, x1, hd, k2⟩
        have DK := hide hd
        have KK := hide (KK.out.trans k2)
        clear hd k2
        try go_wp2_with fail
        refine hK.out _ _ trivial (fun hHeld => ?_)
        clear hK K
        (try simp only [Act.put, List.setIfInBounds_toArray, List.set_cons_zero, List.set_cons_succ])
        have e1 : IntKind.u64.wrap x = x := IntWalk.u64_in _ (by omega)
        obtain ⟨q, hq, q0, q1⟩ : ∃ q, Int.tmod x left = q ∧ 0 ≤ q ∧ q < left := ⟨_, rfl, by rw [Int.tmod_eq_emod_of_nonneg x0]; exact Int.emod_nonneg _ (by omega), by rw [Int.tmod_eq_emod_of_nonneg x0]; exact Int.emod_lt_of_pos _ (by omega)⟩
        have e2 : IntKind.u64.wrap q = q := IntWalk.u64_in _ (by omega)
        have e3 : IntKind.u64.wrap (1 + q) = 1 + q := IntWalk.u64_in _ (by omega)
        have O1 : 1 ≤ 1 + q := by omega
        have O2 : 1 + q ≤ left := by omega
        refine wpAnyH_take (i := 5) (v := ?_) rfl (by kernel_rfl) (by kernel_rfl) (by kernel_rfl) (fun _ _ _ h => h) (Or.inl ⟨by kernel_rfl, ?_⟩) (by trivial) ?_; rotate_left; focus (intro w hSw; (try dsimp only at hSw); go_simp; try (with_reducible rfl)); (try simp only [Act.put, List.setIfInBounds_toArray, List.set_cons_zero, List.set_cons_succ])
        refine wpAnyH_take (i := 7) (v := ?_) rfl (by kernel_rfl) (by kernel_rfl) (by kernel_rfl) (fun _ _ _ h => h) (Or.inl ⟨by kernel_rfl, ?_⟩) (by trivial) ?_; rotate_left; focus (intro w hSw; (try dsimp only at hSw); go_simp; try (with_reducible rfl)); (try simp only [Act.put, List.setIfInBounds_toArray, List.set_cons_zero, List.set_cons_succ])
        refine wpAnyH_take (i := 8) (v := ?_) rfl (by kernel_rfl) (by kernel_rfl) (by kernel_rfl) (fun _ _ _ h => h) (Or.inl ⟨by kernel_rfl, ?_⟩) (by trivial) ?_; rotate_left; focus (intro w hSw; (try dsimp only at hSw); go_simp; try (with_reducible rfl)); (try simp only [Act.put, List.setIfInBounds_toArray, List.set_cons_zero, List.set_cons_succ])
        (try simp only [Act.put, List.setIfInBounds_toArray, List.set_cons_zero, List.set_cons_succ])
        refine wpAnyH_take (i := 9) (v := ?_) rfl (by kernel_rfl) (by kernel_rfl) (by kernel_rfl) (fun _ _ _ h => h) (Or.inl ⟨by kernel_rfl, ?_⟩) (by trivial) ?_; rotate_left; focus (intro w hSw; (try dsimp only at hSw); go_simp; try (with_reducible rfl)); (try simp only [Act.put, List.setIfInBounds_toArray, List.set_cons_zero, List.set_cons_succ])
        refine wpAnyH_ready (rs := [10]) (by kernel_rfl) (by simp) ?_
        refine AllReadyH.cons rfl (fun K hK => ?_) AllReadyH.nil
        · go_simp
          have kA := (Keeps.refl (fun _ => False) W3).alloc (.cells #[.string ⟨#[]⟩, .int .u64 0, .int .u64 0] 99)
          have BL := hide (Blk.new W3 99 #[.string ⟨#[]⟩, .int .u64 0, .int .u64 0])
          have HGX : w1.heap.size ≤ W3.heap.size := KK.out.size
          have KK := hide (KK.out.step0 kA)
          have DK := hide (DK.out.kept kA (fun h => h) (fun _ _ h => h))
          clear kA
          refine hK.out _ _ trivial (fun hHeld => ?_)
          clear hK K
          generalize W3.alloc _ = W4 at *
          generalize W3.heap.size = gx at *
          (try simp only [Act.put, List.setIfInBounds_toArray, List.set_cons_zero, List.set_cons_succ])
          have p0 := BL.out.cell 0
          have p1 := BL.out.cell 1
          have p2 := BL.out.cell 2
          have f0 := BL.out.frozen 0
          have f1 := BL.out.frozen 1
          have f2 := BL.out.frozen 2
          refine wpAnyH_ready (rs := [11]) (by kernel_rfl) (by simp) ?_
          refine AllReadyH.cons rfl (fun K hK => ?_) AllReadyH.nil
          go_simp
          refine hK.out _ _ trivial (fun hHeld => ?_)
          clear hK K
          (try simp only [Act.put, List.setIfInBounds_toArray, List.set_cons_zero, List.set_cons_succ])
          refine wpAnyH_done (by kernel_rfl) ?_ _
          refine ⟨gx, ⟨_, O1, O2, ((BL.out.set 0 _).set 1 _).set 2 _, HGX, DK.out.kept (S := (· = gx)) (KS _ _ _ _ _) (by omega) (by omega), KK.out.step (KS _ _ _ _ _) (fun b hb e => by omega)⟩, ⟨_, _, _, _, _, _, _, _, _, _, rfl⟩⟩
      · go_simp
        have kA := (Keeps.refl (fun _ => False) W1).alloc (.cells #[.string ⟨#[]⟩, .int .u64 0, .int .u64 0] 99)
        have BL := hide (Blk.new W1 99 #[.string ⟨#[]⟩, .int .u64 0, .int .u64 0])
        have HGX : w1.heap.size ≤ W1.heap.size := KK.out.size
        have KK := hide (KK.out.step0 kA)
        have DK := hide (DK.out.kept kA (fun h => h) (fun _ _ h => h))
        clear kA
        refine hK.out _ _ trivial (fun hHeld => ?_)
        clear hK K
        generalize W1.alloc _ = W5 at *
        generalize W1.heap.size = gx at *
        (try simp only [Act.put, List.setIfInBounds_toArray, List.set_cons_zero, List.set_cons_succ])
        refine wpAnyH_ready (rs := [4]) (by kernel_rfl) (by simp) ?_
        refine AllReadyH.cons rfl (fun K hK => ?_) AllReadyH.nil
        · go_simp
          go_at_call 48
          refine (next_any _ (by omega) (by omega) B g W5 DK.out).mono ?_
          rintro e W6 ⟨x, rfl, x0, x1, hd, k2⟩
          have DK := hide hd
          have BL := hide (BL.out.kept k2 (by omega))
          have KK := hide (KK.out.trans k2)
          clear hd k2
          try go_wp2_with fail
          refine hK.out _ _ trivial (fun hHeld => ?_)
          clear hK K
          (try simp only [Act.put, List.setIfInBounds_toArray, List.set_cons_zero, List.set_cons_succ])
          have e1 : IntKind.u64.wrap x = x := IntWalk.u64_in _ (by omega)
          obtain ⟨q, hq, q0, q1⟩ : ∃ q, Int.tmod x left = q ∧ 0 ≤ q ∧ q < left := ⟨_, rfl, by rw [Int.tmod_eq_emod_of_nonneg x0]; exact Int.emod_nonneg _ (by omega), by rw [Int.tmod_eq_emod_of_nonneg x0]; exact Int.emod_lt_of_pos _ (by omega)⟩
          have e2 : IntKind.u64.wrap q = q := IntWalk.u64_in _ (by omega)
          have e3 : IntKind.u64.wrap (1 + q) = 1 + q := IntWalk.u64_in _ (by omega)
          have O1 : 1 ≤ 1 + q := by omega
          have O2 : 1 + q ≤ left := by omega
          refine wpAnyH_take (i := 5) (v := ?_) rfl (by kernel_rfl) (by kernel_rfl) (by kernel_rfl) (fun _ _ _ h => h) (Or.inl ⟨by kernel_rfl, ?_⟩) (by trivial) ?_; rotate_left; focus (intro w hSw; (try dsimp only at hSw); go_simp; try (with_reducible rfl)); (try simp only [Act.put, List.setIfInBounds_toArray, List.set_cons_zero, List.set_cons_succ])
          refine wpAnyH_take (i := 7) (v := ?_) rfl (by kernel_rfl) (by kernel_rfl) (by kernel_rfl) (fun _ _ _ h => h) (Or.inl ⟨by kernel_rfl, ?_⟩) (by trivial) ?_; rotate_left; focus (intro w hSw; (try dsimp only at hSw); go_simp; try (with_reducible rfl)); (try simp only [Act.put, List.setIfInBounds_toArray, List.set_cons_zero, List.set_cons_succ])
          refine wpAnyH_take (i := 8) (v := ?_) rfl (by kernel_rfl) (by kernel_rfl) (by kernel_rfl) (fun _ _ _ h => h) (Or.inl ⟨by kernel_rfl, ?_⟩) (by trivial) ?_; rotate_left; focus (intro w hSw; (try dsimp only at hSw); go_simp; try (with_reducible rfl)); (try simp only [Act.put, List.setIfInBounds_toArray, List.set_cons_zero, List.set_cons_succ])
          (try simp only [Act.put, List.setIfInBounds_toArray, List.set_cons_zero, List.set_cons_succ])
          refine wpAnyH_take (i := 9) (v := ?_) rfl (by kernel_rfl) (by kernel_rfl) (by kernel_rfl) (fun _ _ _ h => h) (Or.inl ⟨by kernel_rfl, ?_⟩) (by trivial) ?_; rotate_left; focus (intro w hSw; (try dsimp only at hSw); go_simp; try (with_reducible rfl)); (try simp only [Act.put, List.setIfInBounds_toArray, List.set_cons_zero, List.set_cons_succ])
          have p0 := BL.out.cell 0
          have p1 := BL.out.cell 1
          have p2 := BL.out.cell 2
          have f0 := BL.out.frozen 0
          have f1 := BL.out.frozen 1
          have f2 := BL.out.frozen 2
          refine wpAnyH_ready (rs := [11]) (by kernel_rfl) (by simp) ?_
          refine AllReadyH.cons rfl (fun K hK => ?_) AllReadyH.nil
          go_simp
          refine hK.out _ _ trivial (fun hHeld => ?_)
          clear hK K
          (try simp only [Act.put, List.setIfInBounds_toArray, List.set_cons_zero, List.set_cons_succ])
          refine wpAnyH_done (by kernel_rfl) ?_ _
          refine ⟨gx, ⟨_, O1, O2, ((BL.out.set 0 _).set 1 _).set 2 _, HGX, DK.out.kept (S := (· = gx)) (KS _ _ _ _ _) (by omega) (by omega), KK.out.step (KS _ _ _ _ _) (fun b hb e => by omega)⟩, ⟨_, _, _, _, _, _, _, _, _, _, rfl⟩⟩
    · go_simp
      go_at_call 48
      refine (next_any _ (by omega) (by omega) B g W1 DK.out).mono ?_
      rintro e W7 ⟨x, rfl, x0, x1, hd, k2⟩
      have DK := hide hd
      have CE := hide (k2.cell_some CE.out (by have := HGB; dsimp only; omega))
      have KK := hide (KK.out.trans k2)
      clear hd k2
      try go_wp2_with fail
      refine hK.out _ _ trivial (fun hHeld => ?_)
      clear hK K
      (try simp only [Act.put, List.setIfInBounds_toArray, List.set_cons_zero, List.set_cons_succ])
      have e1 : IntKind.u64.wrap x = x := IntWalk.u64_in _ (by omega)
      obtain ⟨q, hq, q0, q1⟩ : ∃ q, Int.tmod x left = q ∧ 0 ≤ q ∧ q < left := ⟨_, rfl, by rw [Int.tmod_eq_emod_of_nonneg x0]; exact Int.emod_nonneg _ (by omega), by rw [Int.tmod_eq_emod_of_nonneg x0]; exact Int.emod_lt_of_pos _ (by omega)⟩
      have e2 : IntKind.u64.wrap q = q := IntWalk.u64_in _ (by omega)
      have e3 : IntKind.u64.wrap (1 + q) = 1 + q := IntWalk.u64_in _ (by omega)
      have O1 : 1 ≤ 1 + q := by omega
      have O2 : 1 + q ≤ left := by omega
      refine wpAnyH_take (i := 5) (v := ?_) rfl (by kernel_rfl) (by kernel_rfl) (by kernel_rfl) (fun _ _ _ h => h) (Or.inl ⟨by kernel_rfl, ?_⟩) (by trivial) ?_; rotate_left; focus (intro w hSw; (try dsimp only at hSw); go_simp; try (with_reducible rfl)); (try simp only [Act.put, List.setIfInBounds_toArray, List.set_cons_zero, List.set_cons_succ])
      refine wpAnyH_take (i := 7) (v := ?_) rfl (by kernel_rfl) (by kernel_rfl) (by kernel_rfl) (fun _ _ _ h => h) (Or.inl ⟨by kernel_rfl, ?_⟩) (by trivial) ?_; rotate_left; focus (intro w hSw; (try dsimp only at hSw); go_simp; try (with_reducible rfl)); (try simp only [Act.put, List.setIfInBounds_toArray, List.set_cons_zero, List.set_cons_succ])
      refine wpAnyH_take (i := 8) (v := ?_) rfl (by kernel_rfl) (by kernel_rfl) (by kernel_rfl) (fun _ _ _ h => h) (Or.inl ⟨by kernel_rfl, ?_⟩) (by trivial) ?_; rotate_left; focus (intro w hSw; (try dsimp only at hSw); go_simp; try (with_reducible rfl)); (try simp only [Act.put, List.setIfInBounds_toArray, List.set_cons_zero, List.set_cons_succ])
      (try simp only [Act.put, List.setIfInBounds_toArray, List.set_cons_zero, List.set_cons_succ])
      refine wpAnyH_ready (rs := [2, 10]) (by kernel_rfl) (by simp) ?_
      refine AllReadyH.cons rfl (fun K hK => ?_) (AllReadyH.cons rfl (fun K hK => ?_) AllReadyH.nil)
      · have hcv := run_conv1w y y0 y1 W7 gb CE.out
        go_simp
        refine hK.out _ _ trivial (fun hHeld => ?_)
        clear hK K hcv CE
        (try simp only [Act.put, List.setIfInBounds_toArray, List.set_cons_zero, List.set_cons_succ])
        (try simp only [Act.put, List.setIfInBounds_toArray, List.set_cons_zero, List.set_cons_succ])
        refine wpAnyH_take (i := 9) (v := ?_) rfl (by kernel_rfl) (by kernel_rfl) (by kernel_rfl) (fun _ _ _ h => h) (Or.inl ⟨by kernel_rfl, ?_⟩) (by trivial) ?_; rotate_left; focus (intro w hSw; (try dsimp only at hSw); go_simp; try (with_reducible rfl)); (try simp only [Act.put, List.setIfInBounds_toArray, List.set_cons_zero, List.set_cons_succ])
        refine wpAnyH_ready (rs := [10]) (by kernel_rfl) (by simp) ?_
        refine AllReadyH.cons rfl (fun K hK => ?_) AllReadyH.nil
        · go_simp
          have kA := (Keeps.refl (fun _ => False) W7).alloc (.cells #[.string ⟨#[]⟩, .int .u64 0, .int .u64 0] 99)
          have BL := hide (Blk.new W7 99 #[.string ⟨#[]⟩, .int .u64 0, .int .u64 0])
          have HGX : w1.heap.size ≤ W7.heap.size := KK.out.size
          have KK := hide (KK.out.step0 kA)
          have DK := hide (DK.out.kept kA (fun h => h) (fun _ _ h => h))
          clear kA
          refine hK.out _ _ trivial (fun hHeld => ?_)
          clear hK K
          generalize W7.alloc _ = W9 at *
          generalize W7.heap.size = gx at *
          (try simp only [Act.put, List.setIfInBounds_toArray, List.set_cons_zero, List.set_cons_succ])
          have p0 := BL.out.cell 0
          have p1 := BL.out.cell 1
          have p2 := BL.out.cell 2
          have f0 := BL.out.frozen 0
          have f1 := BL.out.frozen 1
          have f2 := BL.out.frozen 2
          refine wpAnyH_ready (rs := [11]) (by kernel_rfl) (by simp) ?_
          refine AllReadyH.cons rfl (fun K hK => ?_) AllReadyH.nil
          go_simp
          refine hK.out _ _ trivial (fun hHeld => ?_)
          clear hK K
          (try simp only [Act.put, List.setIfInBounds_toArray, List.set_cons_zero, List.set_cons_succ])
          refine wpAnyH_done (by kernel_rfl) ?_ _
          refine ⟨gx, ⟨_, O1, O2, ((BL.out.set 0 _).set 1 _).set 2 _, HGX, DK.out.kept (S := (· = gx)) (KS _ _ _ _ _) (by omega) (by omega), KK.out.step (KS _ _ _ _ _) (fun b hb e => by omega)⟩, ⟨_, _, _, _, _, _, _, _, _, _, rfl⟩⟩
      · go_simp
        have kA := (Keeps.refl (fun _ => False) W7).alloc (.cells #[.string ⟨#[]⟩, .int .u64 0, .int .u64 0] 99)
        have BL := hide (Blk.new W7 99 #[.string ⟨#[]⟩, .int .u64 0, .int .u64 0])
        have HGX : w1.heap.size ≤ W7.heap.size := KK.out.size
        have KK := hide (KK.out.step0 kA)
        have DK := hide (DK.out.kept kA (fun h => h) (fun _ _ h => h))
        have CE := hide (kA.cell_some CE.out (fun h => h))
        clear kA
        refine hK.out _ _ trivial (fun hHeld => ?_)
        clear hK K
        generalize W7.alloc _ = W10 at *
        generalize W7.heap.size = gx at *
        (try simp only [Act.put, List.setIfInBounds_toArray, List.set_cons_zero, List.set_cons_succ])
        refine wpAnyH_ready (rs := [2]) (by kernel_rfl) (by simp) ?_
        refine AllReadyH.cons rfl (fun K hK => ?_) AllReadyH.nil
        · have hcv := run_conv1w y y0 y1 W10 gb CE.out
          go_simp
          refine hK.out _ _ trivial (fun hHeld => ?_)
          clear hK K hcv CE
          (try simp only [Act.put, List.setIfInBounds_toArray, List.set_cons_zero, List.set_cons_succ])
          (try simp only [Act.put, List.setIfInBounds_toArray, List.set_cons_zero, List.set_cons_succ])
          refine wpAnyH_take (i := 9) (v := ?_) rfl (by kernel_rfl) (by kernel_rfl) (by kernel_rfl) (fun _ _ _ h => h) (Or.inl ⟨by kernel_rfl, ?_⟩) (by trivial) ?_; rotate_left; focus (intro w hSw; (try dsimp only at hSw); go_simp; try (with_reducible rfl)); (try simp only [Act.put, List.setIfInBounds_toArray, List.set_cons_zero, List.set_cons_succ])
          have p0 := BL.out.cell 0
          have p1 := BL.out.cell 1
          have p2 := BL.out.cell 2
          have f0 := BL.out.frozen 0
          have f1 := BL.out.frozen 1
          have f2 := BL.out.frozen 2
          refine wpAnyH_ready (rs := [11]) (by kernel_rfl) (by simp) ?_
          refine AllReadyH.cons rfl (fun K hK => ?_) AllReadyH.nil
          go_simp
          refine hK.out _ _ trivial (fun hHeld => ?_)
          clear hK K
          (try simp only [Act.put, List.setIfInBounds_toArray, List.set_cons_zero, List.set_cons_succ])
          refine wpAnyH_done (by kernel_rfl) ?_ _
          refine ⟨gx, ⟨_, O1, O2, ((BL.out.set 0 _).set 1 _).set 2 _, HGX, DK.out.kept (S := (· = gx)) (KS _ _ _ _ _) (by omega) (by omega), KK.out.step (KS _ _ _ _ _) (fun b hb e => by omega)⟩, ⟨_, _, _, _, _, _, _, _, _, _, rfl⟩⟩
    · go_simp
      have kA := (Keeps.refl (fun _ => False) W1).alloc (.cells #[.string ⟨#[]⟩, .int .u64 0, .int .u64 0] 99)
      have BL := hide (Blk.new W1 99 #[.string ⟨#[]⟩, .int .u64 0, .int .u64 0])
      have HGX : w1.heap.size ≤ W1.heap.size := KK.out.size
      have KK := hide (KK.out.step0 kA)
      have DK := hide (DK.out.kept kA (fun h => h) (fun _ _ h => h))
      have CE := hide (kA.cell_some CE.out (fun h => h))
      clear kA
      refine hK.out _ _ trivial (fun hHeld => ?_)
      clear hK K
      generalize W1.alloc _ = W12 at *
      generalize W1.heap.size = gx at *
      (try simp only [Act.put, List.setIfInBounds_toArray, List.set_cons_zero, List.set_cons_succ])
      refine wpAnyH_ready (rs := [2, 4]) (by kernel_rfl) (by simp) ?_
      refine AllReadyH.cons rfl (fun K hK => ?_) (AllReadyH.cons rfl (fun K hK => ?_) AllReadyH.nil)
      · have hcv := run_conv1w y y0 y1 W12 gb CE.out
        go_simp
        refine hK.out _ _ trivial (fun hHeld => ?_)
        clear hK K hcv CE
        (try simp only [Act.put, List.setIfInBounds_toArray, List.set_cons_zero, List.set_cons_succ])
        (try simp only [Act.put, List.setIfInBounds_toArray, List.set_cons_zero, List.set_cons_succ])
        refine wpAnyH_ready (rs := [4]) (by kernel_rfl) (by simp) ?_
        refine AllReadyH.cons rfl (fun K hK => ?_) AllReadyH.nil
        · go_simp
          go_at_call 48
          refine (next_any _ (by omega) (by omega) B g W12 DK.out).mono ?_
          rintro e W14 ⟨x, rfl, x0, x1, hd, k2⟩
          have DK := hide hd
          have BL := hide (BL.out.kept k2 (by omega))
          have KK := hide (KK.out.trans k2)
          clear hd k2
          try go_wp2_with fail
          refine hK.out _ _ trivial (fun hHeld => ?_)
          clear hK K
          (try simp only [Act.put, List.setIfInBounds_toArray, List.set_cons_zero, List.set_cons_succ])
          have e1 : IntKind.u64.wrap x = x := IntWalk.u64_in _ (by omega)
          obtain ⟨q, hq, q0, q1⟩ : ∃ q, Int.tmod x left = q ∧ 0 ≤ q ∧ q < left := ⟨_, rfl, by rw [Int.tmod_eq_emod_of_nonneg x0]; exact Int.emod_nonneg _ (by omega), by rw [Int.tmod_eq_emod_of_nonneg x0]; exact Int.emod_lt_of_pos _ (by omega)⟩
          have e2 : IntKind.u64.wrap q = q := IntWalk.u64_in _ (by omega)
          have e3 : IntKind.u64.wrap (1 + q) = 1 + q := IntWalk.u64_in _ (by omega)
          have O1 : 1 ≤ 1 + q := by omega
          have O2 : 1 + q ≤ left := by omega
          refine wpAnyH_take (i := 5) (v := ?_) rfl (by kernel_rfl) (by kernel_rfl) (by kernel_rfl) (fun _ _ _ h => h) (Or.inl ⟨by kernel_rfl, ?_⟩) (by trivial) ?_; rotate_left; focus (intro w hSw; (try dsimp only at hSw); go_simp; try (with_reducible rfl)); (try simp only [Act.put, List.setIfInBounds_toArray, List.set_cons_zero, List.set_cons_succ])
          refine wpAnyH_take (i := 7) (v := ?_) rfl (by kernel_rfl) (by kernel_rfl) (by kernel_rfl) (fun _ _ _ h => h) (Or.inl ⟨by kernel_rfl, ?_⟩) (by trivial) ?_; rotate_left; focus (intro w hSw; (try dsimp only at hSw); go_simp; try (with_reducible rfl)); (try simp only [Act.put, List.setIfInBounds_toArray, List.set_cons_zero, List.set_cons_succ])
          refine wpAnyH_take (i := 8) (v := ?_) rfl (by kernel_rfl) (by kernel_rfl) (by kernel_rfl) (fun _ _ _ h => h) (Or.inl ⟨by kernel_rfl, ?_⟩) (by trivial) ?_; rotate_left; focus (intro w hSw; (try dsimp only at hSw); go_simp; try (with_reducible rfl)); (try simp only [Act.put, List.setIfInBounds_toArray, List.set_cons_zero, List.set_cons_succ])
          (try simp only [Act.put, List.setIfInBounds_toArray, List.set_cons_zero, List.set_cons_succ])
          refine wpAnyH_take (i := 9) (v := ?_) rfl (by kernel_rfl) (by kernel_rfl) (by kernel_rfl) (fun _ _ _ h => h) (Or.inl ⟨by kernel_rfl, ?_⟩) (by trivial) ?_; rotate_left; focus (intro w hSw; (try dsimp only at hSw); go_simp; try (with_reducible rfl)); (try simp only [Act.put, List.setIfInBounds_toArray, List.set_cons_zero, List.set_cons_succ])
          have p0 := BL.out.cell 0
          have p1 := BL.out.cell 1
          have p2 := BL.out.cell 2
          have f0 := BL.out.frozen 0
          have f1 := BL.out.frozen 1
          have f2 := BL.out.frozen 2
          refine wpAnyH_ready (rs := [11]) (by kernel_rfl) (by simp) ?_
          refine AllReadyH.cons rfl (fun K hK => ?_) AllReadyH.nil
          go_simp
          refine hK.out _ _ trivial (fun hHeld => ?_)
          clear hK K
          (try simp only [Act.put, List.setIfInBounds_toArray, List.set_cons_zero, List.set_cons_succ])
          refine wpAnyH_done (by kernel_rfl) ?_ _
          refine ⟨gx, ⟨_, O1, O2, ((BL.out.set 0 _).set 1 _).set 2 _, HGX, DK.out.kept (S := (· = gx)) (KS _ _ _ _ _) (by omega) (by omega), KK.out.step (KS _ _ _ _ _) (fun b hb e => by omega)⟩, ⟨_, _, _, _, _, _, _, _, _, _, rfl⟩⟩
      · go_simp
        go_at_call 48
        refine (next_any _ (by omega) (by omega) B g W12 DK.out).mono ?_
        rintro e W15 ⟨x, rfl, x0, x1, hd, k2⟩
        have DK := hide hd
        have CE := hide (k2.cell_some CE.out (by have := HGB; dsimp only; omega))
        have BL := hide (BL.out.kept k2 (by omega))
        have KK := hide (KK.out.trans k2)
        clear hd k2
        try go_wp2_with fail
        refine hK.out _ _ trivial (fun hHeld => ?_)
        clear hK K
        (try simp only [Act.put, List.setIfInBounds_toArray, List.set_cons_zero, List.set_cons_succ])
        have e1 : IntKind.u64.wrap x = x := IntWalk.u64_in _ (by omega)
        obtain ⟨q, hq, q0, q1⟩ : ∃ q, Int.tmod x left = q ∧ 0 ≤ q ∧ q < left := ⟨_, rfl, by rw [Int.tmod_eq_emod_of_nonneg x0]; exact Int.emod_nonneg _ (by omega), by rw [Int.tmod_eq_emod_of_nonneg x0]; exact Int.emod_lt_of_pos _ (by omega)⟩
        have e2 : IntKind.u64.wrap q = q := IntWalk.u64_in _ (by omega)
        have e3 : IntKind.u64.wrap (1 + q) = 1 + q := IntWalk.u64_in _ (by omega)
        have O1 : 1 ≤ 1 + q := by omega
        have O2 : 1 + q ≤ left := by omega
        refine wpAnyH_take (i := 5) (v := ?_) rfl (by kernel_rfl) (by kernel_rfl) (by kernel_rfl) (fun _ _ _ h => h) (Or.inl ⟨by kernel_rfl, ?_⟩) (by trivial) ?_; rotate_left; focus (intro w hSw; (try dsimp only at hSw); go_simp; try (with_reducible rfl)); (try simp only [Act.put, List.setIfInBounds_toArray, List.set_cons_zero, List.set_cons_succ])
        refine wpAnyH_take (i := 7) (v := ?_) rfl (by kernel_rfl) (by kernel_rfl) (by kernel_rfl) (fun _ _ _ h => h) (Or.inl ⟨by kernel_rfl, ?_⟩) (by trivial) ?_; rotate_left; focus (intro w hSw; (try dsimp only at hSw); go_simp; try (with_reducible rfl)); (try simp only [Act.put, List.setIfInBounds_toArray, List.set_cons_zero, List.set_cons_succ])
        refine wpAnyH_take (i := 8) (v := ?_) rfl (by kernel_rfl) (by kernel_rfl) (by kernel_rfl) (fun _ _ _ h => h) (Or.inl ⟨by kernel_rfl, ?_⟩) (by trivial) ?_; rotate_left; focus (intro w hSw; (try dsimp only at hSw); go_simp; try (with_reducible rfl)); (try simp only [Act.put, List.setIfInBounds_toArray, List.set_cons_zero, List.set_cons_succ])
        (try simp only [Act.put, List.setIfInBounds_toArray, List.set_cons_zero, List.set_cons_succ])
        refine wpAnyH_ready (rs := [2]) (by kernel_rfl) (by simp) ?_
        refine AllReadyH.cons rfl (fun K hK => ?_) AllReadyH.nil
        · have hcv := run_conv1w y y0 y1 W15 gb CE.out
          go_simp
          refine hK.out _ _ trivial (fun hHeld => ?_)
          clear hK K hcv CE
          (try simp only [Act.put, List.setIfInBounds_toArray, List.set_cons_zero, List.set_cons_succ])
          (try simp only [Act.put, List.setIfInBounds_toArray, List.set_cons_zero, List.set_cons_succ])
          refine wpAnyH_take (i := 9) (v := ?_) rfl (by kernel_rfl) (by kernel_rfl) (by kernel_rfl) (fun _ _ _ h => h) (Or.inl ⟨by kernel_rfl, ?_⟩) (by trivial) ?_; rotate_left; focus (intro w hSw; (try dsimp only at hSw); go_simp; try (with_reducible rfl)); (try simp only [Act.put, List.setIfInBounds_toArray, List.set_cons_zero, List.set_cons_succ])
          have p0 := BL.out.cell 0
          have p1 := BL.out.cell 1
          have p2 := BL.out.cell 2
          have f0 := BL.out.frozen 0
          have f1 := BL.out.frozen 1
          have f2 := BL.out.frozen 2
          refine wpAnyH_ready (rs := [11]) (by kernel_rfl) (by simp) ?_
          refine AllReadyH.cons rfl (fun K hK => ?_) AllReadyH.nil
          go_simp
          refine hK.out _ _ trivial (fun hHeld => ?_)
          clear hK K
          (try simp only [Act.put, List.setIfInBounds_toArray, List.set_cons_zero, List.set_cons_succ])
          refine wpAnyH_done (by kernel_rfl) ?_ _
          refine ⟨gx, ⟨_, O1, O2, ((BL.out.set 0 _).set 1 _).set 2 _, HGX, DK.out.kept (S := (· = gx)) (KS _ _ _ _ _) (by omega) (by omega), KK.out.step (KS _ _ _ _ _) (fun b hb e => by omega)⟩, ⟨_, _, _, _, _, _, _, _, _, _, rfl⟩⟩
  · go_simp
    go_at_call 48
    refine (next_any _ (by omega) (by omega) B g W0 DK.out).mono ?_
    rintro e W17 ⟨x, rfl, x0, x1, hd, k2⟩
    have DK := hide hd
    have KK := hide (KK.out.trans k2)
    clear hd k2
    try go_wp2_with fail
    refine hK.out _ _ trivial (fun hHeld => ?_)
    clear hK K
    (try simp only [Act.put, List.setIfInBounds_toArray, List.set_cons_zero, List.set_cons_succ])
    have e1 : IntKind.u64.wrap x = x := IntWalk.u64_in _ (by omega)
    obtain ⟨q, hq, q0, q1⟩ : ∃ q, Int.tmod x left = q ∧ 0 ≤ q ∧ q < left := ⟨_, rfl, by rw [Int.tmod_eq_emod_of_nonneg x0]; exact Int.emod_nonneg _ (by omega), by rw [Int.tmod_eq_emod_of_nonneg x0]; exact Int.emod_lt_of_pos _ (by omega)⟩
    have e2 : IntKind.u64.wrap q = q := IntWalk.u64_in _ (by omega)
    have e3 : IntKind.u64.wrap (1 + q) = 1 + q := IntWalk.u64_in _ (by omega)
    have O1 : 1 ≤ 1 + q := by omega
    have O2 : 1 + q ≤ left := by omega
    refine wpAnyH_take (i := 5) (v := ?_) rfl (by kernel_rfl) (by kernel_rfl) (by kernel_rfl) (fun _ _ _ h => h) (Or.inl ⟨by kernel_rfl, ?_⟩) (by trivial) ?_; rotate_left; focus (intro w hSw; (try dsimp only at hSw); go_simp; try (with_reducible rfl)); (try simp only [Act.put, List.setIfInBounds_toArray, List.set_cons_zero, List.set_cons_succ])
    refine wpAnyH_take (i := 7) (v := ?_) rfl (by kernel_rfl) (by kernel_rfl) (by kernel_rfl) (fun _ _ _ h => h) (Or.inl ⟨by kernel_rfl, ?_⟩) (by trivial) ?_; rotate_left; focus (intro w hSw; (try dsimp only at hSw); go_simp; try (with_reducible rfl)); (try simp only [Act.put, List.setIfInBounds_toArray, List.set_cons_zero, List.set_cons_succ])
    refine wpAnyH_take (i := 8) (v := ?_) rfl (by kernel_rfl) (by kernel_rfl) (by kernel_rfl) (fun _ _ _ h => h) (Or.inl ⟨by kernel_rfl, ?_⟩) (by trivial) ?_; rotate_left; focus (intro w hSw; (try dsimp only at hSw); go_simp; try (with_reducible rfl)); (try simp only [Act.put, List.setIfInBounds_toArray, List.set_cons_zero, List.set_cons_succ])
    (try simp only [Act.put, List.setIfInBounds_toArray, List.set_cons_zero, List.set_cons_succ])
    refine wpAnyH_ready (rs := [1, 10]) (by kernel_rfl) (by simp) ?_
    refine AllReadyH.cons rfl (fun K hK => ?_) (AllReadyH.cons rfl (fun K hK => ?_) AllReadyH.nil)
    · go_simp
      have kA := (Keeps.refl (fun _ => False) W17).alloc (.cells #[.int .u8 y] 5)
      have CE : Hid ((W17.alloc (.cells #[.int .u8 y] 5)).cell? ⟨W17.heap.size, 0, none⟩ = some (.int .u8 y)) := hide ((Blk.new W17 5 #[.int .u8 y]).cell 0)
      have KS0 := hide KK.out.size
      have KK := hide (KK.out.step0 kA)
      have DK := hide (DK.out.kept kA (fun h => h) (fun _ _ h => h))
      clear kA
      refine hK.out _ _ trivial (fun hHeld => ?_)
      clear hK K
      generalize W17.alloc _ = W18 at *
      have HGB : w1.heap.size ≤ W17.heap.size := KS0.out
      generalize W17.heap.size = gb at *
      (try simp only [Act.put, List.setIfInBounds_toArray, List.set_cons_zero, List.set_cons_succ])
      refine wpAnyH_ready (rs := [2, 10]) (by kernel_rfl) (by simp) ?_
      refine AllReadyH.cons rfl (fun K hK => ?_) (AllReadyH.cons rfl (fun K hK => ?_) AllReadyH.nil)
      · have hcv := run_conv1w y y0 y1 W18 gb CE.out
        go_simp
        refine hK.out _ _ trivial (fun hHeld => ?_)
        clear hK K hcv CE
        (try simp only [Act.put, List.setIfInBounds_toArray, List.set_cons_zero, List.set_cons_succ])
        (try simp only [Act.put, List.setIfInBounds_toArray, List.set_cons_zero, List.set_cons_succ])
        refine wpAnyH_take (i := 9) (v := ?_) rfl (by kernel_rfl) (by kernel_rfl) (by kernel_rfl) (fun _ _ _ h => h) (Or.inl ⟨by kernel_rfl, ?_⟩) (by trivial) ?_; rotate_left; focus (intro w hSw; (try dsimp only at hSw); go_simp; try (with_reducible rfl)); (try simp only [Act.put, List.setIfInBounds_toArray, List.set_cons_zero, List.set_cons_succ])
        refine wpAnyH_ready (rs := [10]) (by kernel_rfl) (by simp) ?_
        refine AllReadyH.cons rfl (fun K hK => ?_) AllReadyH.nil
        · go_simp
          have kA := (Keeps.refl (fun _ => False) W18).alloc (.cells #[.string ⟨#[]⟩, .int .u64 0, .int .u64 0] 99)
          have BL := hide (Blk.new W18 99 #[.string ⟨#[]⟩, .int .u64 0, .int .u64 0])
          have HGX : w1.heap.size ≤ W18.heap.size := KK.out.size
          have KK := hide (KK.out.step0 kA)
          have DK := hide (DK.out.kept kA (fun h => h) (fun _ _ h => h))
          clear kA
          refine hK.out _ _ trivial (fun hHeld => ?_)
          clear hK K
          generalize W18.alloc _ = W20 at *
          generalize W18.heap.size = gx at *
          (try simp only [Act.put, List.setIfInBounds_toArray, List.set_cons_zero, List.set_cons_succ])
          have p0 := BL.out.cell 0
          have p1 := BL.out.cell 1
          have p2 := BL.out.cell 2
          have f0 := BL.out.frozen 0
          have f1 := BL.out.frozen 1
          have f2 := BL.out.frozen 2
          refine wpAnyH_ready (rs := [11]) (by kernel_rfl) (by simp) ?_
          refine AllReadyH.cons rfl (fun K hK => ?_) AllReadyH.nil
          go_simp
          refine hK.out _ _ trivial (fun hHeld => ?_)
          clear hK K
          (try simp only [Act.put, List.setIfInBounds_toArray, List.set_cons_zero, List.set_cons_succ])
          refine wpAnyH_done (by kernel_rfl) ?_ _
          refine ⟨gx, ⟨_, O1, O2, ((BL.out.set 0 _).set 1 _).set 2 _, HGX, DK.out.kept (S := (· = gx)) (KS _ _ _ _ _) (by omega) (by omega), KK.out.step (KS _ _ _ _ _) (fun b hb e => by omega)⟩, ⟨_, _, _, _, _, _, _, _, _, _, rfl⟩⟩
      · go_simp
        have kA := (Keeps.refl (fun _ => False) W18).alloc (.cells #[.string ⟨#[]⟩, .int .u64 0, .int .u64 0] 99)
        have BL := hide (Blk.new W18 99 #[.string ⟨#[]⟩, .int .u64 0, .int .u64 0])
        have HGX : w1.heap.size ≤ W18.heap.size := KK.out.size
        have KK := hide (KK.out.step0 kA)
        have DK := hide (DK.out.kept kA (fun h => h) (fun _ _ h => h))
        have CE := hide (kA.cell_some CE.out (fun h => h))
        clear kA
        refine hK.out _ _ trivial (fun hHeld => ?_)
        clear hK K
        generalize W18.alloc _ = W21 at *
        generalize W18.heap.size = gx at *
        (try simp only [Act.put, List.setIfInBounds_toArray, List.set_cons_zero, List.set_cons_succ])
        refine wpAnyH_ready (rs := [2]) (by kernel_rfl) (by simp) ?_
        refine AllReadyH.cons rfl (fun K hK => ?_) AllReadyH.nil
        · have hcv := run_conv1w y y0 y1 W21 gb CE.out
          go_simp
          refine hK.out _ _ trivial (fun hHeld => ?_)
          clear hK K hcv CE
          (try simp only [Act.put, List.setIfInBounds_toArray, List.set_cons_zero, List.set_cons_succ])
          (try simp only [Act.put, List.setIfInBounds_toArray, List.set_cons_zero, List.set_cons_succ])
          refine wpAnyH_take (i := 9) (v := ?_) rfl (by kernel_rfl) (by kernel_rfl) (by kernel_rfl) (fun _ _ _ h => h) (Or.inl ⟨by kernel_rfl, ?_⟩) (by trivial) ?_; rotate_left; focus (intro w hSw; (try dsimp only at hSw); go_simp; try (with_reducible rfl)); (try simp only [Act.put, List.setIfInBounds_toArray, List.set_cons_zero, List.set_cons_succ])
          have p0 := BL.out.cell 0
          have p1 := BL.out.cell 1
          have p2 := BL.out.cell 2
          have f0 := BL.out.frozen 0
          have f1 := BL.out.frozen 1
          have f2 := BL.out.frozen 2
          refine wpAnyH_ready (rs := [11]) (by kernel_rfl) (by simp) ?_
          refine AllReadyH.cons rfl (fun K hK => ?_) AllReadyH.nil
          go_simp
          refine hK.out _ _ trivial (fun hHeld => ?_)
          clear hK K
          (try simp only [Act.put, List.setIfInBounds_toArray, List.set_cons_zero, List.set_cons_succ])
          refine wpAnyH_done (by kernel_rfl) ?_ _
          refine ⟨gx, ⟨_, O1, O2, ((BL.out.set 0 _).set 1 _).set 2 _, HGX, DK.out.kept (S := (· = gx)) (KS _ _ _ _ _) (by omega) (by omega), KK.out.step (KS _ _ _ _ _) (fun b hb e => by omega)⟩, ⟨_, _, _, _, _, _, _, _, _, _, rfl⟩⟩
    · go_simp
      have kA := (Keeps.refl (fun _ => False) W17).alloc (.cells #[.string ⟨#[]⟩, .int .u64 0, .int .u64 0] 99)
      have BL := hide (Blk.new W17 99 #[.string ⟨#[]⟩, .int .u64 0, .int .u64 0])
      have HGX : w1.heap.size ≤ W17.heap.size := KK.out.size
      have KK := hide (KK.out.step0 kA)
      have DK := hide (DK.out.kept kA (fun h => h) (fun _ _ h => h))
      clear kA
      refine hK.out _ _ trivial (fun hHeld => ?_)
      clear hK K
      generalize W17.alloc _ = W23 at *
      generalize W17.heap.size = gx at *
      (try simp only [Act.put, List.setIfInBounds_toArray, List.set_cons_zero, List.set_cons_succ])
      refine wpAnyH_ready (rs := [1]) (by kernel_rfl) (by simp) ?_
      refine AllReadyH.cons rfl (fun K hK => ?_) AllReadyH.nil
      · go_simp
        have kA := (Keeps.refl (fun _ => False) W23).alloc (.cells #[.int .u8 y] 5)
        have CE : Hid ((W23.alloc (.cells #[.int .u8 y] 5)).cell? ⟨W23.heap.size, 0, none⟩ = some (.int .u8 y)) := hide ((Blk.new W23 5 #[.int .u8 y]).cell 0)
        have KS0 := hide KK.out.size
        have KK := hide (KK.out.step0 kA)
        have DK := hide (DK.out.kept kA (fun h => h) (fun _ _ h => h))
        have BL := hide (BL.out.kept kA (fun h => h))
        clear kA
        refine hK.out _ _ trivial (fun hHeld => ?_)
        clear hK K
        generalize W23.alloc _ = W24 at *
        have HGB : w1.heap.size ≤ W23.heap.size := KS0.out
        generalize W23.heap.size = gb at *
        (try simp only [Act.put, List.setIfInBounds_toArray, List.set_cons_zero, List.set_cons_succ])
        refine wpAnyH_ready (rs := [2]) (by kernel_rfl) (by simp) ?_
        refine AllReadyH.cons rfl (fun K hK => ?_) AllReadyH.nil
        · have hcv := run_conv1w y y0 y1 W24 gb CE.out
          go_simp
          refine hK.out _ _ trivial (fun hHeld => ?_)
          clear hK K hcv CE
          (try simp only [Act.put, List.setIfInBounds_toArray, List.set_cons_zero, List.set_cons_succ])
          (try simp only [Act.put, List.setIfInBounds_toArray, List.set_cons_zero, List.set_cons_succ])
          refine wpAnyH_take (i := 9) (v := ?_) rfl (by kernel_rfl) (by kernel_rfl) (by kernel_rfl) (fun _ _ _ h => h) (Or.inl ⟨by kernel_rfl, ?_⟩) (by trivial) ?_; rotate_left; focus (intro w hSw; (try dsimp only at hSw); go_simp; try (with_reducible rfl)); (try simp only [Act.put, List.setIfInBounds_toArray, List.set_cons_zero, List.set_cons_succ])
          have p0 := BL.out.cell 0
          have p1 := BL.out.cell 1
          have p2 := BL.out.cell 2
          have f0 := BL.out.frozen 0
          have f1 := BL.out.frozen 1
          have f2 := BL.out.frozen 2
          refine wpAnyH_ready (rs := [11]) (by kernel_rfl) (by simp) ?_
          refine AllReadyH.cons rfl (fun K hK => ?_) AllReadyH.nil
          go_simp
          refine hK.out _ _ trivial (fun hHeld => ?_)
          clear hK K
          (try simp only [Act.put, List.setIfInBounds_toArray, List.set_cons_zero, List.set_cons_succ])
          refine wpAnyH_done (by kernel_rfl) ?_ _
          refine ⟨gx, ⟨_, O1, O2, ((BL.out.set 0 _).set 1 _).set 2 _, HGX, DK.out.kept (S := (· = gx)) (KS _ _ _ _ _) (by omega) (by omega), KK.out.step (KS _ _ _ _ _) (fun b hb e => by omega)⟩, ⟨_, _, _, _, _, _, _, _, _, _, rfl⟩⟩
  · go_simp
    have kA := (Keeps.refl (fun _ => False) W0).alloc (.cells #[.string ⟨#[]⟩, .int .u64 0, .int .u64 0] 99)
    have BL := hide (Blk.new W0 99 #[.string ⟨#[]⟩, .int .u64 0, .int .u64 0])
    have HGX : w1.heap.size ≤ W0.heap.size := KK.out.size
    have KK := hide (KK.out.step0 kA)
    have DK := hide (DK.out.kept kA (fun h => h) (fun _ _ h => h))
    clear kA
    refine hK.out _ _ trivial (fun hHeld => ?_)
    clear hK K
    generalize W0.alloc _ = W26 at *
    generalize W0.heap.size = gx at *
    (try simp only [Act.put, List.setIfInBounds_toArray, List.set_cons_zero, List.set_cons_succ])
    refine wpAnyH_ready (rs := [1, 4]) (by kernel_rfl) (by simp) ?_
    refine AllReadyH.cons rfl (fun K hK => ?_) (AllReadyH.cons rfl (fun K hK => ?_) AllReadyH.nil)
    · go_simp
      have kA := (Keeps.refl (fun _ => False) W26).alloc (.cells #[.int .u8 y] 5)
      have CE : Hid ((W26.alloc (.cells #[.int .u8 y] 5)).cell? ⟨W26.heap.size, 0, none⟩ = some (.int .u8 y)) := hide ((Blk.new W26 5 #[.int .u8 y]).cell 0)
      have KS0 := hide KK.out.size
      have KK := hide (KK.out.step0 kA)
      have DK := hide (DK.out.kept kA (fun h => h) (fun _ _ h => h))
      have BL := hide (BL.out.kept kA (fun h => h))
      clear kA
      refine hK.out _ _ trivial (fun hHeld => ?_)
      clear hK K
      generalize W26.alloc _ = W27 at *
      have HGB : w1.heap.size ≤ W26.heap.size := KS0.out
      generalize W26.heap.size = gb at *
      (try simp only [Act.put, List.setIfInBounds_toArray, List.set_cons_zero, List.set_cons_succ])
      refine wpAnyH_ready (rs := [2, 4]) (by kernel_rfl) (by simp) ?_
      refine AllReadyH.cons rfl (fun K hK => ?_) (AllReadyH.cons rfl (fun K hK => ?_) AllReadyH.nil)
      · have hcv := run_conv1w y y0 y1 W27 gb CE.out
        go_simp
        refine hK.out _ _ trivial (fun hHeld => ?_)
        clear hK K hcv CE
        (try simp only [Act.put, List.setIfInBounds_toArray, List.set_cons_zero, List.set_cons_succ])
        (try simp only [Act.put, List.setIfInBounds_toArray, List.set_cons_zero, List.set_cons_succ])
        refine wpAnyH_ready (rs := [4]) (by kernel_rfl) (by simp) ?_
        refine AllReadyH.cons rfl (fun K hK => ?_) AllReadyH.nil
        · go_simp
          go_at_call 48
          refine (next_any _ (by omega) (by omega) B g W27 DK.out).mono ?_
          rintro e W29 ⟨x, rfl, x0, x1, hd, k2⟩
          have DK := hide hd
          have BL := hide (BL.out.kept k2 (by omega))
          have KK := hide (KK.out.trans k2)
          clear hd k2
          try go_wp2_with fail
          refine hK.out _ _ trivial (fun hHeld => ?_)
          clear hK K
          (try simp only [Act.put, List.setIfInBounds_toArray, List.set_cons_zero, List.set_cons_succ])
          have e1 : IntKind.u64.wrap x = x := IntWalk.u64_in _ (by omega)
          obtain ⟨q, hq, q0, q1⟩ : ∃ q, Int.tmod x left = q ∧ 0 ≤ q ∧ q < left := ⟨_, rfl, by rw [Int.tmod_eq_emod_of_nonneg x0]; exact Int.emod_nonneg _ (by omega), by rw [Int.tmod_eq_emod_of_nonneg x0]; exact Int.emod_lt_of_pos _ (by omega)⟩
          have e2 : IntKind.u64.wrap q = q := IntWalk.u64_in _ (by omega)
          have e3 : IntKind.u64.wrap (1 + q) = 1 + q := IntWalk.u64_in _ (by omega)
          have O1 : 1 ≤ 1 + q := by omega
          have O2 : 1 + q ≤ left := by omega
          refine wpAnyH_take (i := 5) (v := ?_) rfl (by kernel_rfl) (by kernel_rfl) (by kernel_rfl) (fun _ _ _ h => h) (Or.inl ⟨by kernel_rfl, ?_⟩) (by trivial) ?_; rotate_left; focus (intro w hSw; (try dsimp only at hSw); go_simp; try (with_reducible rfl)); (try simp only [Act.put, List.setIfInBounds_toArray, List.set_cons_zero, List.set_cons_succ])
          refine wpAnyH_take (i := 7) (v := ?_) rfl (by kernel_rfl) (by kernel_rfl) (by kernel_rfl) (fun _ _ _ h => h) (Or.inl ⟨by kernel_rfl, ?_⟩) (by trivial) ?_; rotate_left; focus (intro w hSw; (try dsimp only at hSw); go_simp; try (with_reducible rfl)); (try simp only [Act.put, List.setIfInBounds_toArray, List.set_cons_zero, List.set_cons_succ])
          refine wpAnyH_take (i := 8) (v := ?_) rfl (by kernel_rfl) (by kernel_rfl) (by kernel_rfl) (fun _ _ _ h => h) (Or.inl ⟨by kernel_rfl, ?_⟩) (by trivial) ?_; rotate_left; focus (intro w hSw; (try dsimp only at hSw); go_simp; try (with_reducible rfl)); (try simp only [Act.put, List.setIfInBounds_toArray, List.set_cons_zero, List.set_cons_succ])
          (try simp only [Act.put, List.setIfInBounds_toArray, List.set_cons_zero, List.set_cons_succ])
          refine wpAnyH_take (i := 9) (v := ?_) rfl (by kernel_rfl) (by kernel_rfl) (by kernel_rfl) (fun _ _ _ h => h) (Or.inl ⟨by kernel_rfl, ?_⟩) (by trivial) ?_; rotate_left; focus (intro w hSw; (try dsimp only at hSw); go_simp; try (with_reducible rfl)); (try simp only [Act.put, List.setIfInBounds_toArray, List.set_cons_zero, List.set_cons_succ])
          have p0 := BL.out.cell 0
          have p1 := BL.out.cell 1
          have p2 := BL.out.cell 2
          have f0 := BL.out.frozen 0
          have f1 := BL.out.frozen 1
          have f2 := BL.out.frozen 2
          refine wpAnyH_ready (rs := [11]) (by kernel_rfl) (by simp) ?_
          refine AllReadyH.cons rfl (fun K hK => ?_) AllReadyH.nil
          go_simp
          refine hK.out _ _ trivial (fun hHeld => ?_)
          clear hK K
          (try simp only [Act.put, List.setIfInBounds_toArray, List.set_cons_zero, List.set_cons_succ])
          refine wpAnyH_done (by kernel_rfl) ?_ _
          refine ⟨gx, ⟨_, O1, O2, ((BL.out.set 0 _).set 1 _).set 2 _, HGX, DK.out.kept (S := (· = gx)) (KS _ _ _ _ _) (by omega) (by omega), KK.out.step (KS _ _ _ _ _) (fun b hb e => by omega)⟩, ⟨_, _, _, _, _, _, _, _, _, _, rfl⟩⟩
      · go_simp
        go_at_call 48
        refine (next_any _ (by omega) (by omega) B g W27 DK.out).mono ?_
        rintro e W30 ⟨x, rfl, x0, x1, hd, k2⟩
        have DK := hide hd
        have CE := hide (k2.cell_some CE.out (by have := HGB; dsimp only; omega))
        have BL := hide (BL.out.kept k2 (by omega))
        have KK := hide (KK.out.trans k2)
        clear hd k2
        try go_wp2_with fail
        refine hK.out _ _ trivial (fun hHeld => ?_)
        clear hK K
        (try simp only [Act.put, List.setIfInBounds_toArray, List.set_cons_zero, List.set_cons_succ])
        have e1 : IntKind.u64.wrap x = x := IntWalk.u64_in _ (by omega)
        obtain ⟨q, hq, q0, q1⟩ : ∃ q, Int.tmod x left = q ∧ 0 ≤ q ∧ q < left := ⟨_, rfl, by rw [Int.tmod_eq_emod_of_nonneg x0]; exact Int.emod_nonneg _ (by omega), by rw [Int.tmod_eq_emod_of_nonneg x0]; exact Int.emod_lt_of_pos _ (by omega)⟩
        have e2 : IntKind.u64.wrap q = q := IntWalk.u64_in _ (by omega)
        have e3 : IntKind.u64.wrap (1 + q) = 1 + q := IntWalk.u64_in _ (by omega)
        have O1 : 1 ≤ 1 + q := by omega
        have O2 : 1 + q ≤ left := by omega
        refine wpAnyH_take (i := 5) (v := ?_) rfl (by kernel_rfl) (by kernel_rfl) (by kernel_rfl) (fun _ _ _ h => h) (Or.inl ⟨by kernel_rfl, ?_⟩) (by trivial) ?_; rotate_left; focus (intro w hSw; (try dsimp only at hSw); go_simp; try (with_reducible rfl)); (try simp only [Act.put, List.setIfInBounds_toArray, List.set_cons_zero, List.set_cons_succ])
        refine wpAnyH_take (i := 7) (v := ?_) rfl (by kernel_rfl) (by kernel_rfl) (by kernel_rfl) (fun _ _ _ h => h) (Or.inl ⟨by kernel_rfl, ?_⟩) (by trivial) ?_; rotate_left; focus (intro w hSw; (try dsimp only at hSw); go_simp; try (with_reducible rfl)); (try simp only [Act.put, List.setIfInBounds_toArray, List.set_cons_zero, List.set_cons_succ])
        refine wpAnyH_take (i := 8) (v := ?_) rfl (by kernel_rfl) (by kernel_rfl) (by kernel_rfl) (fun _ _ _ h => h) (Or.inl ⟨by kernel_rfl, ?_⟩) (by trivial) ?_; rotate_left; focus (intro w hSw; (try dsimp only at hSw); go_simp; try (with_reducible rfl)); (try simp only [Act.put, List.setIfInBounds_toArray, List.set_cons_zero, List.set_cons_succ])
        (try simp only [Act.put, List.setIfInBounds_toArray, List.set_cons_zero, List.set_cons_succ])
        refine wpAnyH_ready (rs := [2]) (by kernel_rfl) (by simp) ?_
        refine AllReadyH.cons rfl (fun K hK => ?_) AllReadyH.nil
        · have hcv := run_conv1w y y0 y1 W30 gb CE.out
          go_simp
          refine hK.out _ _ trivial (fun hHeld => ?_)
          clear hK K hcv CE
          (try simp only [Act.put, List.setIfInBounds_toArray, List.set_cons_zero, List.set_cons_succ])
          (try simp only [Act.put, List.setIfInBounds_toArray, List.set_cons_zero, List.set_cons_succ])
          refine wpAnyH_take (i := 9) (v := ?_) rfl (by kernel_rfl) (by kernel_rfl) (by kernel_rfl) (fun _ _ _ h => h) (Or.inl ⟨by kernel_rfl, ?_⟩) (by trivial) ?_; rotate_left; focus (intro w hSw; (try dsimp only at hSw); go_simp; try (with_reducible rfl)); (try simp only [Act.put, List.setIfInBounds_toArray, List.set_cons_zero, List.set_cons_succ])
          have p0 := BL.out.cell 0
          have p1 := BL.out.cell 1
          have p2 := BL.out.cell 2
          have f0 := BL.out.frozen 0
          have f1 := BL.out.frozen 1
          have f2 := BL.out.frozen 2
          refine wpAnyH_ready (rs := [11]) (by kernel_rfl) (by simp) ?_
          refine AllReadyH.cons rfl (fun K hK => ?_) AllReadyH.nil
          go_simp
          refine hK.out _ _ trivial (fun hHeld => ?_)
          clear hK K
          (try simp only [Act.put, List.setIfInBounds_toArray, List.set_cons_zero, List.set_cons_succ])
          refine wpAnyH_done (by kernel_rfl) ?_ _
          refine ⟨gx, ⟨_, O1, O2, ((BL.out.set 0 _).set 1 _).set 2 _, HGX, DK.out.kept (S := (· = gx)) (KS _ _ _ _ _) (by omega) (by omega), KK.out.step (KS _ _ _ _ _) (fun b hb e => by omega)⟩, ⟨_, _, _, _, _, _, _, _, _, _, rfl⟩⟩
    · go_simp
      go_at_call 48
      refine (next_any _ (by omega) (by omega) B g W26 DK.out).mono ?_
      rintro e W32 ⟨x, rfl, x0, x1, hd, k2⟩
      have DK := hide hd
      have BL := hide (BL.out.kept k2 (by omega))
      have KK := hide (KK.out.trans k2)
      clear hd k2
      try go_wp2_with fail
      refine hK.out _ _ trivial (fun hHeld => ?_)
      clear hK K
      (try simp only [Act.put, List.setIfInBounds_toArray, List.set_cons_zero, List.set_cons_succ])
      have e1 : IntKind.u64.wrap x = x := IntWalk.u64_in _ (by omega)
      obtain ⟨q, hq, q0, q1⟩ : ∃ q, Int.tmod x left = q ∧ 0 ≤ q ∧ q < left := ⟨_, rfl, by rw [Int.tmod_eq_emod_of_nonneg x0]; exact Int.emod_nonneg _ (by omega), by rw [Int.tmod_eq_emod_of_nonneg x0]; exact Int.emod_lt_of_pos _ (by omega)⟩
      have e2 : IntKind.u64.wrap q = q := IntWalk.u64_in _ (by omega)
      have e3 : IntKind.u64.wrap (1 + q) = 1 + q := IntWalk.u64_in _ (by omega)
      have O1 : 1 ≤ 1 + q := by omega
      have O2 : 1 + q ≤ left := by omega
      refine wpAnyH_take (i := 5) (v := ?_) rfl (by kernel_rfl) (by kernel_rfl) (by kernel_rfl) (fun _ _ _ h => h) (Or.inl ⟨by kernel_rfl, ?_⟩) (by trivial) ?_; rotate_left; focus (intro w hSw; (try dsimp only at hSw); go_simp; try (with_reducible rfl)); (try simp only [Act.put, List.setIfInBounds_toArray, List.set_cons_zero, List.set_cons_succ])
      refine wpAnyH_take (i := 7) (v := ?_) rfl (by kernel_rfl) (by kernel_rfl) (by kernel_rfl) (fun _ _ _ h => h) (Or.inl ⟨by kernel_rfl, ?_⟩) (by trivial) ?_; rotate_left; focus (intro w hSw; (try dsimp only at hSw); go_simp; try (with_reducible rfl)); (try simp only [Act.put, List.setIfInBounds_toArray, List.set_cons_zero, List.set_cons_succ])
      refine wpAnyH_take (i := 8) (v := ?_) rfl (by kernel_rfl) (by kernel_rfl) (by kernel_rfl) (fun _ _ _ h => h) (Or.inl ⟨by kernel_rfl, ?_⟩) (by trivial) ?_; rotate_left; focus (intro w hSw; (try dsimp only at hSw); go_simp; try (with_reducible rfl)); (try simp only [Act.put, List.setIfInBounds_toArray, List.set_cons_zero, List.set_cons_succ])
      (try simp only [Act.put, List.setIfInBounds_toArray, List.set_cons_zero, List.set_cons_succ])
      refine wpAnyH_ready (rs := [1]) (by kernel_rfl) (by simp) ?_
      refine AllReadyH.cons rfl (fun K hK => ?_) AllReadyH.nil
      · go_simp
        have kA := (Keeps.refl (fun _ => False) W32).alloc (.cells #[.int .u8 y] 5)
        have CE : Hid ((W32.alloc (.cells #[.int .u8 y] 5)).cell? ⟨W32.heap.size, 0, none⟩ = some (.int .u8 y)) := hide ((Blk.new W32 5 #[.int .u8 y]).cell 0)
        have KS0 := hide KK.out.size
        have KK := hide (KK.out.step0 kA)
        have DK := hide (DK.out.kept kA (fun h => h) (fun _ _ h => h))
        have BL := hide (BL.out.kept kA (fun h => h))
        clear kA
        refine hK.out _ _ trivial (fun hHeld => ?_)
        clear hK K
        generalize W32.alloc _ = W33 at *
        have HGB : w1.heap.size ≤ W32.heap.size := KS0.out
        generalize W32.heap.size = gb at *
        (try simp only [Act.put, List.setIfInBounds_toArray, List.set_cons_zero, List.set_cons_succ])
        refine wpAnyH_ready (rs := [2]) (by kernel_rfl) (by simp) ?_
        refine AllReadyH.cons rfl (fun K hK => ?_) AllReadyH.nil
        · have hcv := run_conv1w y y0 y1 W33 gb CE.out
          go_simp
          refine hK.out _ _ trivial (fun hHeld => ?_)
          clear hK K hcv CE
          (try simp only [Act.put, List.setIfInBounds_toArray, List.set_cons_zero, List.set_cons_succ])
          (try simp only [Act.put, List.setIfInBounds_toArray, List.set_cons_zero, List.set_cons_succ])
          refine wpAnyH_take (i := 9) (v := ?_) rfl (by kernel_rfl) (by kernel_rfl) (by kernel_rfl) (fun _ _ _ h => h) (Or.inl ⟨by kernel_rfl, ?_⟩) (by trivial) ?_; rotate_left; focus (intro w hSw; (try dsimp only at hSw); go_simp; try (with_reducible rfl)); (try simp only [Act.put, List.setIfInBounds_toArray, List.set_cons_zero, List.set_cons_succ])
          have p0 := BL.out.cell 0
          have p1 := BL.out.cell 1
          have p2 := BL.out.cell 2
          have f0 := BL.out.frozen 0
          have f1 := BL.out.frozen 1
          have f2 := BL.out.frozen 2
          refine wpAnyH_ready (rs := [11]) (by kernel_rfl) (by simp) ?_
          refine AllReadyH.cons rfl (fun K hK => ?_) AllReadyH.nil
          go_simp
          refine hK.out _ _ trivial (fun hHeld => ?_)
          clear hK K
          (try simp only [Act.put, List.setIfInBounds_toArray, List.set_cons_zero, List.set_cons_succ])
          refine wpAnyH_done (by kernel_rfl) ?_ _
          refine ⟨gx, ⟨_, O1, O2, ((BL.out.set 0 _).set 1 _).set 2 _, HGX, DK.out.kept (S := (· = gx)) (KS _ _ _ _ _) (by omega) (by omega), KK.out.step (KS _ _ _ _ _) (fun b hb e => by omega)⟩, ⟨_, _, _, _, _, _, _, _, _, _, rfl⟩⟩
end dsum
end Go.Proofs.Ytaiopdipldaimaa

set_option linter.unusedVariables false
set_option linter.unusedSimpArgs false
namespace Go.Proofs.Ytaiopdipldaimaa
open Go.RowKit
namespace dsum
theorem remq (x m : Int) (x0 : 0 ≤ x) (m1 : 1 ≤ m) : ∃ q, Int.tmod x m = q ∧ 0 ≤ q ∧ q < m :=
  ⟨_, rfl, by rw [Int.tmod_eq_emod_of_nonneg x0]; exact Int.emod_nonneg _ (by omega), by rw [Int.tmod_eq_emod_of_nonneg x0]; exact Int.emod_lt_of_pos _ (by omega)⟩
noncomputable def rg11 : Code := ((Try.f24.body.bind (findReg 11)).getD .skip)
set_option maxRecDepth 1000000 in
set_option maxHeartbeats 4000000 in
theorem reg11 (B g X5 gx : Nat) (w1 : World) (tot own : Int) (k : ByteArray) (o1 : 1 ≤ own) (o2 : own ≤ tot) (t2 : tot ≤ 9223372036854775808) (hD : IsDeck w1 B g) (c5 : w1.cell? ⟨X5, 0, none⟩ = some (.int .u64 tot)) (h5 : X5 ≠ g) (hx : gx ≠ g) (hx5 : gx ≠ X5) (hBx : B ≤ gx)
    (hB : Blk w1 gx 99 #[.string k, .int .u64 own, .int .u64 0]) (s1 s2 s3 s4 s6 s7 s8 s10 s11 s12 s13 s14 s15 s16 s17 s18 s19 s20 s21 s22 s23 s24 s25 s26 s27 s28 s29 s30 s31 s32 s33 s34 s35 s36 s37 s38 s39 s40 s41 s42 s43 s44 s45 s46 s47 s48 s49 s50 s51 s52 s53 s54 s55 s56 s57 s58 s59 s60 s61 s62 s63 s64 s65 s66 s67 s68 s69 s70 s71 s72 s73 s74 s75 s76 s77 s78 s79 s80 s81 s82 s83 s84 s85 s86 s87 s88 s89 s90 s91 s92 s93 s94 s95 s96 s97 s98 s99 s100 s101 s102 s103 s104 s105 s106 s107 s108 s109 s110 s111 s112 s113 s114 s115 s116 s117 : Value) :
    Code.wp Try.prog rg11 (NormPost fun a' w' => ∃ sl : Int, (0 ≤ sl ∧ own + sl ≤ tot) ∧ Blk w' gx 99 #[.string k, .int .u64 own, .int .u64 sl] ∧ IsDeck w' B g ∧ Keeps (fun b => b = g ∨ b = gx) w1 w' ∧ (∃ u54 u55 u56 u57 u58 u59 u60 u61 u62 u63 u64 : Value, a' = ⟨#[.pointer (some ⟨g, 0, none⟩), s1, s2, s3, s4, .pointer (some ⟨X5, 0, none⟩), s6, s7, s8, .pointer (some ⟨gx, 0, none⟩), s10, s11, s12, s13, s14, s15, s16, s17, s18, s19, s20, s21, s22, s23, s24, s25, s26, s27, s28, s29, s30, s31, s32, s33, s34, s35, s36, s37, s38, s39, s40, s41, s42, s43, s44, s45, s46, s47, s48, s49, s50, s51, s52, s53, u54, u55, u56, u57, u58, u59, u60, u61, u62, u63, u64, s65, s66, s67, s68, s69, s70, s71, s72, s73, s74, s75, s76, s77, s78, s79, s80, s81, s82, s83, s84, s85, s86, s87, s88, s89, s90, s91, s92, s93, s94, s95, s96, s97, s98, s99, s100, s101, s102, s103, s104, s105, s106, s107, s108, s109, s110, s111, s112, s113, s114, s115, s116, s117], []⟩)) ⟨#[.pointer (some ⟨g, 0, none⟩), s1, s2, s3, s4, .pointer (some ⟨X5, 0, none⟩), s6, s7, s8, .pointer (some ⟨gx, 0, none⟩), s10, s11, s12, s13, s14, s15, s16, s17, s18, s19, s20, s21, s22, s23, s24, s25, s26, s27, s28, s29, s30, s31, s32, s33, s34, s35, s36, s37, s38, s39, s40, s41, s42, s43, s44, s45, s46, s47, s48, s49, s50, s51, s52, s53, s54, s55, s56, s57, s58, s59, s60, s61, s62, s63, s64, s65, s66, s67, s68, s69, s70, s71, s72, s73, s74, s75, s76, s77, s78, s79, s80, s81, s82, s83, s84, s85, s86, s87, s88, s89, s90, s91, s92, s93, s94, s95, s96, s97, s98, s99, s100, s101, s102, s103, s104, s105, s106, s107, s108, s109, s110, s111, s112, s113, s114, s115, s116, s117], []⟩ w1 := by
  have BX := hide hB
  have DK := hide (IsDeck.drew hD)
  have C5 := hide c5
  have e1 : IntKind.u64.wrap (tot - own) = tot - own := IntWalk.u64_in _ (by omega)
  have e2 : IntKind.u64.wrap (tot - own + 1) = tot - own + 1 := IntWalk.u64_in _ (by omega)
  have hlz : ¬ (tot - own + 1 = 0) := by omega
  have hl0 : ((tot - own + 1) == 0) = false := by simp; omega
  have c1 := hB.cell 1
  clear hB hD
  conv => arg 2; whnf
  dsimp only
  refine wp_region_held_drew (S := fun W => W.cell? ⟨X5, 0, none⟩ = some (.int .u64 tot) ∧ W.cell? ⟨gx, 1, none⟩ = some (.int .u64 own)) (by kernel_rfl) ⟨C5.out, c1⟩ (fun hHeld => ?_)
  clear c5 c1
  refine wpAnyH_take (i := 0) (v := ?_) rfl (by kernel_rfl) (by kernel_rfl) (by kernel_rfl) (fun _ _ _ h => h) (Or.inl ⟨by kernel_rfl, ?_⟩) (by assumption) ?_; rotate_left; focus (intro w hSw; (try dsimp only at hSw); go_simp; try (with_reducible rfl)); (try simp only [Act.put, List.setIfInBounds_toArray, List.set_cons_zero, List.set_cons_succ])
  refine wpAnyH_take (i := 3) (v := ?_) rfl (by kernel_rfl) (by kernel_rfl) (by kernel_rfl) (fun _ _ _ h => h) (Or.inl ⟨by kernel_rfl, ?_⟩) (by assumption) ?_; rotate_left; focus (intro w hSw; (try dsimp only at hSw); go_simp; try (with_reducible rfl)); (try simp only [Act.put, List.setIfInBounds_toArray, List.set_cons_zero, List.set_cons_succ])
  refine wpAnyH_take (i := 4) (v := ?_) rfl (by kernel_rfl) (by kernel_rfl) (by kernel_rfl) (fun _ _ _ h => h) (Or.inl ⟨by kernel_rfl, ?_⟩) (by assumption) ?_; rotate_left; focus (intro w hSw; (try dsimp only at hSw); go_simp; try (with_reducible rfl)); (try simp only [Act.put, List.setIfInBounds_toArray, List.set_cons_zero, List.set_cons_succ])
  refine wpAnyH_take (i := 5) (v := ?_) rfl (by kernel_rfl) (by kernel_rfl) (by kernel_rfl) (fun _ _ _ h => h) (Or.inl ⟨by kernel_rfl, ?_⟩) (by assumption) ?_; rotate_left; focus (intro w hSw; (try dsimp only at hSw); go_simp; try (with_reducible rfl)); (try simp only [Act.put, List.setIfInBounds_toArray, List.set_cons_zero, List.set_cons_succ])
  refine wpAnyH_take (i := 6) (v := ?_) rfl (by kernel_rfl) (by kernel_rfl) (by kernel_rfl) (fun _ _ _ h => h) (Or.inl ⟨by kernel_rfl, ?_⟩) (by assumption) ?_; rotate_left; focus (intro w hSw; (try dsimp only at hSw); go_simp; try (with_reducible rfl)); (try simp only [Act.put, List.setIfInBounds_toArray, List.set_cons_zero, List.set_cons_succ])
  refine wpAnyH_take (i := 7) (v := ?_) rfl (by kernel_rfl) (by kernel_rfl) (by kernel_rfl) (fun _ _ _ h => h) (Or.inl ⟨by kernel_rfl, ?_⟩) (by assumption) ?_; rotate_left; focus (intro w hSw; (try dsimp only at hSw); go_simp; try (with_reducible rfl)); (try simp only [Act.put, List.setIfInBounds_toArray, List.set_cons_zero, List.set_cons_succ])
  refine wpAnyH_take (i := 8) (v := ?_) rfl (by kernel_rfl) (by kernel_rfl) (by kernel_rfl) (fun _ _ _ h => h) (Or.inl ⟨by kernel_rfl, ?_⟩) (by assumption) ?_; rotate_left; focus (intro w hSw; (try dsimp only at hSw); go_simp; try (with_reducible rfl)); (try simp only [Act.put, List.setIfInBounds_toArray, List.set_cons_zero, List.set_cons_succ])
  refine wpAnyH_ready (rs := [1]) (by kernel_rfl) (by simp) ?_
  refine AllReadyH.cons rfl (fun K hK => ?_) AllReadyH.nil
  go_simp
  go_at_call 48
  refine (next_any _ (by omega) (by omega) B g w1.drew DK.out).mono ?_
  rintro e w2 ⟨x, rfl, x0, x1, hd, k2⟩
  have DK := hide hd
  have kk : Keeps (· = g) w1 w2 := (Keeps.refl (· = g) w1).drew.trans k2
  have BX := hide (BX.out.kept kk hx)
  have C5 := hide (kk.cell_some C5.out h5)
  have KK := hide kk
  have c1 := BX.out.cell 1
  clear hd k2 kk
  try go_wp2_with fail
  refine hK.out _ _ ⟨C5.out, c1⟩ (fun hHeld => ?_)
  clear hK K
  (try simp only [Act.put, List.setIfInBounds_toArray, List.set_cons_zero, List.set_cons_succ])
  have e3 : IntKind.u64.wrap x = x := IntWalk.u64_in _ (by omega)
  obtain ⟨q, hq, q0, q1⟩ := remq x (tot - own + 1) x0 (by omega)
  have e4 : IntKind.u64.wrap q = q := IntWalk.u64_in _ (by omega)
  refine wpAnyH_take (i := 2) (v := ?_) rfl (by kernel_rfl) (by kernel_rfl) (by kernel_rfl) (fun _ _ _ h => h) (Or.inl ⟨by kernel_rfl, ?_⟩) (by assumption) ?_; rotate_left; focus (intro w hSw; (try dsimp only at hSw); go_simp; try (with_reducible rfl)); (try simp only [Act.put, List.setIfInBounds_toArray, List.set_cons_zero, List.set_cons_succ])
  refine wpAnyH_take (i := 9) (v := ?_) rfl (by kernel_rfl) (by kernel_rfl) (by kernel_rfl) (fun _ _ _ h => h) (Or.inl ⟨by kernel_rfl, ?_⟩) (by assumption) ?_; rotate_left; focus (intro w hSw; (try dsimp only at hSw); go_simp; try (with_reducible rfl)); (try simp only [Act.put, List.setIfInBounds_toArray, List.set_cons_zero, List.set_cons_succ])
  refine wpAnyH_take (i := 10) (v := ?_) rfl (by kernel_rfl) (by kernel_rfl) (by kernel_rfl) (fun _ _ _ h => h) (Or.inl ⟨by kernel_rfl, ?_⟩) (by assumption) ?_; rotate_left; focus (intro w hSw; (try dsimp only at hSw); go_simp; try (with_reducible rfl)); (try simp only [Act.put, List.setIfInBounds_toArray, List.set_cons_zero, List.set_cons_succ])
  have p2 := BX.out.cell 2
  have f2 := BX.out.frozen 2
  refine wpAnyH_ready (rs := [11]) (by kernel_rfl) (by simp) ?_
  refine AllReadyH.cons rfl (fun K hK => ?_) AllReadyH.nil
  go_simp
  have kS : Keeps (· = gx) w2 (w2.setCell ⟨gx, 2, none⟩ (.int .u64 q)) := Keeps.setCell (S := (· = gx)) (p := ⟨gx, 2, none⟩) (Keeps.refl _ _) (.inl rfl) _
  have hBs := BX.out.set 2 (.int .u64 q)
  refine hK.out _ _ ⟨kS.cell_some C5.out (fun h => hx5 h.symm), hBs.cell 1⟩ (fun hHeld => ?_)
  clear hK K
  (try simp only [Act.put, List.setIfInBounds_toArray, List.set_cons_zero, List.set_cons_succ])
  refine wpAnyH_done (by kernel_rfl) ?_ _
  refine ⟨q, ⟨q0, by omega⟩, hBs, DK.out.kept kS (fun h => hx h.symm) (fun b hb e => by omega), ?_, ⟨_, _, _, _, _, _, _, _, _, _, _, rfl⟩⟩
  exact ((Keeps.refl (fun b => b = g ∨ b = gx) w1).step KK.out (fun b hb e => Or.inl e)).step kS (fun b hb e => Or.inr e)
noncomputable def rg14 : Code := ((Try.f24.body.bind (findReg 14)).getD .skip)
set_option maxRecDepth 1000000 in
set_option maxHeartbeats 4000000 in
theorem reg14 (B g X5 : Nat) (w1 : World) (tot : Int) (vE vR : Value) (t0 : 0 ≤ tot) (t2 : tot ≤ 9223372036854775808) (hD : IsDeck w1 B g) (h5 : X5 ≠ g) (hB5 : B ≤ X5)
    (hB : Blk w1 X5 45 #[.int .u64 tot, vE, .int .u64 0, vR]) (s1 s2 s3 s4 s6 s7 s8 s9 s10 s11 s12 s13 s14 s15 s16 s17 s18 s19 s20 s21 s22 s23 s24 s25 s26 s27 s28 s29 s30 s31 s32 s33 s34 s35 s36 s37 s38 s39 s40 s41 s42 s43 s44 s45 s46 s47 s48 s49 s50 s51 s52 s53 s54 s55 s56 s57 s58 s59 s60 s61 s62 s63 s64 s65 s66 s67 s68 s69 s70 s71 s72 s73 s74 s75 s76 s77 s78 s79 s80 s81 s82 s83 s84 s85 s86 s87 s88 s89 s90 s91 s92 s93 s94 s95 s96 s97 s98 s99 s100 s101 s102 s103 s104 s105 s106 s107 s108 s109 s110 s111 s112 s113 s114 s115 s116 s117 : Value) :
    Code.wp Try.prog rg14 (NormPost fun a' w' => ∃ un : Int, (0 ≤ un ∧ un ≤ tot) ∧ Blk w' X5 45 #[.int .u64 tot, vE, .int .u64 un, vR] ∧ IsDeck w' B g ∧ Keeps (fun b => b = g ∨ b = X5) w1 w' ∧ (∃ u75 u76 u77 u78 u79 u80 u81 u82 : Value, a' = ⟨#[.pointer (some ⟨g, 0, none⟩), s1, s2, s3, s4, .pointer (some ⟨X5, 0, none⟩), s6, s7, s8, s9, s10, s11, s12, s13, s14, s15, s16, s17, s18, s19, s20, s21, s22, s23, s24, s25, s26, s27, s28, s29, s30, s31, s32, s33, s34, s35, s36, s37, s38, s39, s40, s41, s42, s43, s44, s45, s46, s47, s48, s49, s50, s51, s52, s53, s54, s55, s56, s57, s58, s59, s60, s61, s62, s63, s64, s65, s66, s67, s68, s69, s70, s71, s72, s73, s74, u75, u76, u77, u78, u79, u80, u81, u82, s83, s84, s85, s86, s87, s88, s89, s90, s91, s92, s93, s94, s95, s96, s97, s98, s99, s100, s101, s102, s103, s104, s105, s106, s107, s108, s109, s110, s111, s112, s113, s114, s115, s116, s117], []⟩)) ⟨#[.pointer (some ⟨g, 0, none⟩), s1, s2, s3, s4, .pointer (some ⟨X5, 0, none⟩), s6, s7, s8, s9, s10, s11, s12, s13, s14, s15, s16, s17, s18, s19, s20, s21, s22, s23, s24, s25, s26, s27, s28, s29, s30, s31, s32, s33, s34, s35, s36, s37, s38, s39, s40, s41, s42, s43, s44, s45, s46, s47, s48, s49, s50, s51, s52, s53, s54, s55, s56, s57, s58, s59, s60, s61, s62, s63, s64, s65, s66, s67, s68, s69, s70, s71, s72, s73, s74, s75, s76, s77, s78, s79, s80, s81, s82, s83, s84, s85, s86, s87, s88, s89, s90, s91, s92, s93, s94, s95, s96, s97, s98, s99, s100, s101, s102, s103, s104, s105, s106, s107, s108, s109, s110, s111, s112, s113, s114, s115, s116, s117], []⟩ w1 := by
  have BX := hide hB
  have DK := hide (IsDeck.drew hD)
  have e2 : IntKind.u64.wrap (tot + 1) = tot + 1 := IntWalk.u64_in _ (by omega)
  have hlz : ¬ (tot + 1 = 0) := by omega
  have hl0 : ((tot + 1) == 0) = false := by simp; omega
  have c5 : w1.cell? ⟨X5, 0, none⟩ = some (.int .u64 tot) := hB.cell 0
  clear hB hD
  conv => arg 2; whnf
  dsimp only
  refine wp_region_held_drew (S := fun W => W.cell? ⟨X5, 0, none⟩ = some (.int .u64 tot)) (by kernel_rfl) c5 (fun hHeld => ?_)
  clear c5
  refine wpAnyH_take (i := 0) (v := ?_) rfl (by kernel_rfl) (by kernel_rfl) (by kernel_rfl) (fun _ _ _ h => h) (Or.inl ⟨by kernel_rfl, ?_⟩) (by assumption) ?_; rotate_left; focus (intro w hSw; (try dsimp only at hSw); go_simp; try (with_reducible rfl)); (try simp only [Act.put, List.setIfInBounds_toArray, List.set_cons_zero, List.set_cons_succ])
  refine wpAnyH_take (i := 3) (v := ?_) rfl (by kernel_rfl) (by kernel_rfl) (by kernel_rfl) (fun _ _ _ h => h) (Or.inl ⟨by kernel_rfl, ?_⟩) (by assumption) ?_; rotate_left; focus (intro w hSw; (try dsimp only at hSw); go_simp; try (with_reducible rfl)); (try simp only [Act.put, List.setIfInBounds_toArray, List.set_cons_zero, List.set_cons_succ])
  refine wpAnyH_take (i := 4) (v := ?_) rfl (by kernel_rfl) (by kernel_rfl) (by kernel_rfl) (fun _ _ _ h => h) (Or.inl ⟨by kernel_rfl, ?_⟩) (by assumption) ?_; rotate_left; focus (intro w hSw; (try dsimp only at hSw); go_simp; try (with_reducible rfl)); (try simp only [Act.put, List.setIfInBounds_toArray, List.set_cons_zero, List.set_cons_succ])
  refine wpAnyH_take (i := 5) (v := ?_) rfl (by kernel_rfl) (by kernel_rfl) (by kernel_rfl) (fun _ _ _ h => h) (Or.inl ⟨by kernel_rfl, ?_⟩) (by assumption) ?_; rotate_left; focus (intro w hSw; (try dsimp only at hSw); go_simp; try (with_reducible rfl)); (try simp only [Act.put, List.setIfInBounds_toArray, List.set_cons_zero, List.set_cons_succ])
  refine wpAnyH_ready (rs := [1]) (by kernel_rfl) (by simp) ?_
  refine AllReadyH.cons rfl (fun K hK => ?_) AllReadyH.nil
  go_simp
  go_at_call 48
  refine (next_any _ (by omega) (by omega) B g w1.drew DK.out).mono ?_
  rintro e w2 ⟨x, rfl, x0, x1, hd, k2⟩
  have DK := hide hd
  have kk : Keeps (· = g) w1 w2 := (Keeps.refl (· = g) w1).drew.trans k2
  have BX := hide (BX.out.kept kk h5)
  have KK := hide kk
  have c5 : w2.cell? ⟨X5, 0, none⟩ = some (.int .u64 tot) := BX.out.cell 0
  clear hd k2 kk
  try go_wp2_with fail
  refine hK.out _ _ c5 (fun hHeld => ?_)
  clear hK K
  (try simp only [Act.put, List.setIfInBounds_toArray, List.set_cons_zero, List.set_cons_succ])
  have e3 : IntKind.u64.wrap x = x := IntWalk.u64_in _ (by omega)
  obtain ⟨q, hq, q0, q1⟩ := remq x (tot + 1) x0 (by omega)
  have e4 : IntKind.u64.wrap q = q := IntWalk.u64_in _ (by omega)
  refine wpAnyH_take (i := 2) (v := ?_) rfl (by kernel_rfl) (by kernel_rfl) (by kernel_rfl) (fun _ _ _ h => h) (Or.inl ⟨by kernel_rfl, ?_⟩) (by assumption) ?_; rotate_left; focus (intro w hSw; (try dsimp only at hSw); go_simp; try (with_reducible rfl)); (try simp only [Act.put, List.setIfInBounds_toArray, List.set_cons_zero, List.set_cons_succ])
  refine wpAnyH_take (i := 6) (v := ?_) rfl (by kernel_rfl) (by kernel_rfl) (by kernel_rfl) (fun _ _ _ h => h) (Or.inl ⟨by kernel_rfl, ?_⟩) (by assumption) ?_; rotate_left; focus (intro w hSw; (try dsimp only at hSw); go_simp; try (with_reducible rfl)); (try simp only [Act.put, List.setIfInBounds_toArray, List.set_cons_zero, List.set_cons_succ])
  refine wpAnyH_take (i := 7) (v := ?_) rfl (by kernel_rfl) (by kernel_rfl) (by kernel_rfl) (fun _ _ _ h => h) (Or.inl ⟨by kernel_rfl, ?_⟩) (by assumption) ?_; rotate_left; focus (intro w hSw; (try dsimp only at hSw); go_simp; try (with_reducible rfl)); (try simp only [Act.put, List.setIfInBounds_toArray, List.set_cons_zero, List.set_cons_succ])
  have p2 := BX.out.cell 2
  have f2 := BX.out.frozen 2
  refine wpAnyH_ready (rs := [8]) (by kernel_rfl) (by simp) ?_
  refine AllReadyH.cons rfl (fun K hK => ?_) AllReadyH.nil
  go_simp
  have kS : Keeps (· = X5) w2 (w2.setCell ⟨X5, 2, none⟩ (.int .u64 q)) := Keeps.setCell (S := (· = X5)) (p := ⟨X5, 2, none⟩) (Keeps.refl _ _) (.inl rfl) _
  have hBs := BX.out.set 2 (.int .u64 q)
  have c5' : (w2.setCell ⟨X5, 2, none⟩ (.int .u64 q)).cell? ⟨X5, 0, none⟩ = some (.int .u64 tot) := hBs.cell 0
  refine hK.out _ _ c5' (fun hHeld => ?_)
  clear hK K
  (try simp only [Act.put, List.setIfInBounds_toArray, List.set_cons_zero, List.set_cons_succ])
  refine wpAnyH_done (by kernel_rfl) ?_ _
  refine ⟨q, ⟨q0, by omega⟩, hBs, DK.out.kept kS (fun h => h5 h.symm) (fun b hb e => by omega), ?_, ⟨_, _, _, _, _, _, _, _, rfl⟩⟩
  exact ((Keeps.refl (fun b => b = g ∨ b = X5) w1).step KK.out (fun b hb e => Or.inl e)).step kS (fun b hb e => Or.inr e)
noncomputable def rg23 : Code := ((Try.f24.body.bind (findReg 23)).getD .skip)
set_option maxRecDepth 1000000 in
set_option maxHeartbeats 4000000 in
theorem reg23 (B g X5 gr n i : Nat) (w1 : World) (tot : Int) (zs : List Int) (t0 : 0 ≤ tot) (t2 : tot ≤ 9223372036854775808) (hD : IsDeck w1 B g) (c5 : w1.cell? ⟨X5, 0, none⟩ = some (.int .u64 tot)) (h5 : X5 ≠ g) (hx : gr ≠ g) (hx5 : gr ≠ X5) (hBx : B ≤ gr) (hi : i < n) (hn : n ≤ 256) (hzl : zs.length = n)
    (hB : Blk w1 gr 24 (zs.map (.int .u64)).toArray) (s1 s2 s3 s4 s6 s7 s8 s9 s10 s13 s14 s15 s16 s17 s18 s19 s20 s21 s22 s23 s24 s25 s26 s27 s28 s29 s30 s31 s32 s33 s34 s35 s36 s37 s38 s39 s40 s41 s42 s43 s44 s45 s46 s47 s48 s49 s50 s51 s52 s53 s54 s55 s56 s57 s58 s59 s60 s61 s62 s63 s64 s65 s66 s67 s68 s69 s70 s71 s72 s73 s74 s75 s76 s77 s78 s79 s80 s81 s82 s83 s84 s85 s86 s87 s88 s89 s90 s91 s92 s93 s94 s95 s96 s97 s98 s99 s100 s101 s102 s103 s104 s105 s106 s107 s108 s109 s110 s111 s112 s113 s114 s115 s116 s117 : Value) :
    Code.wp Try.prog rg23 (NormPost fun a' w' => ∃ q : Int, (0 ≤ q ∧ q ≤ tot) ∧ Blk w' gr 24 ((zs.set i q).map (.int .u64)).toArray ∧ IsDeck w' B g ∧ Keeps (fun b => b = g ∨ b = gr) w1 w' ∧ (∃ u100 u101 u102 u103 u104 u105 u106 u107 u108 u109 : Value, a' = ⟨#[.pointer (some ⟨g, 0, none⟩), s1, s2, s3, s4, .pointer (some ⟨X5, 0, none⟩), s6, s7, s8, s9, s10, .slice (some ⟨gr, 0, none⟩) n n, .int .i64 (i : Int), s13, s14, s15, s16, s17, s18, s19, s20, s21, s22, s23, s24, s25, s26, s27, s28, s29, s30, s31, s32, s33, s34, s35, s36, s37, s38, s39, s40, s41, s42, s43, s44, s45, s46, s47, s48, s49, s50, s51, s52, s53, s54, s55, s56, s57, s58, s59, s60, s61, s62, s63, s64, s65, s66, s67, s68, s69, s70, s71, s72, s73, s74, s75, s76, s77, s78, s79, s80, s81, s82, s83, s84, s85, s86, s87, s88, s89, s90, s91, s92, s93, s94, s95, s96, s97, s98, s99, u100, u101, u102, u103, u104, u105, u106, u107, u108, u109, s110, s111, s112, s113, s114, s115, s116, s117], []⟩)) ⟨#[.pointer (some ⟨g, 0, none⟩), s1, s2, s3, s4, .pointer (some ⟨X5, 0, none⟩), s6, s7, s8, s9, s10, .slice (some ⟨gr, 0, none⟩) n n, .int .i64 (i : Int), s13, s14, s15, s16, s17, s18, s19, s20, s21, s22, s23, s24, s25, s26, s27, s28, s29, s30, s31, s32, s33, s34, s35, s36, s37, s38, s39, s40, s41, s42, s43, s44, s45, s46, s47, s48, s49, s50, s51, s52, s53, s54, s55, s56, s57, s58, s59, s60, s61, s62, s63, s64, s65, s66, s67, s68, s69, s70, s71, s72, s73, s74, s75, s76, s77, s78, s79, s80, s81, s82, s83, s84, s85, s86, s87, s88, s89, s90, s91, s92, s93, s94, s95, s96, s97, s98, s99, s100, s101, s102, s103, s104, s105, s106, s107, s108, s109, s110, s111, s112, s113, s114, s115, s116, s117], []⟩ w1 := by
  have BX := hide hB
  have DK := hide (IsDeck.drew hD)
  have C5 := hide c5
  have HZ := hide hzl
  have e2 : IntKind.u64.wrap (tot + 1) = tot + 1 := IntWalk.u64_in _ (by omega)
  have hlz : ¬ (tot + 1 = 0) := by omega
  have hl0 : ((tot + 1) == 0) = false := by simp; omega
  have hi0 : (0 : Int) ≤ (i : Int) := by omega
  have hi1 : (i : Int) < (n : Int) := by omega
  clear hB hD hzl
  conv => arg 2; whnf
  dsimp only
  refine wp_region_held_drew (S := fun W => W.cell? ⟨X5, 0, none⟩ = some (.int .u64 tot)) (by kernel_rfl) c5 (fun hHeld => ?_)
  clear c5
  refine wpAnyH_take (i := 0) (v := ?_) rfl (by kernel_rfl) (by kernel_rfl) (by kernel_rfl) (fun _ _ _ h => h) (Or.inl ⟨by kernel_rfl, ?_⟩) (by assumption) ?_; rotate_left; focus (intro w hSw; (try dsimp only at hSw); go_simp; try (with_reducible rfl)); (try simp only [Act.put, List.setIfInBounds_toArray, List.set_cons_zero, List.set_cons_succ])
  refine wpAnyH_take (i := 1) (v := ?_) rfl (by kernel_rfl) (by kernel_rfl) (by kernel_rfl) (fun _ _ _ h => h) (Or.inl ⟨by kernel_rfl, ?_⟩) (by assumption) ?_; rotate_left; focus (intro w hSw; (try dsimp only at hSw); go_simp; try (with_reducible rfl)); (try simp only [Act.put, List.setIfInBounds_toArray, List.set_cons_zero, List.set_cons_succ])
  refine wpAnyH_take (i := 2) (v := ?_) rfl (by kernel_rfl) (by kernel_rfl) (by kernel_rfl) (fun _ _ _ h => h) (Or.inl ⟨by kernel_rfl, ?_⟩) (by assumption) ?_; rotate_left; focus (intro w hSw; (try dsimp only at hSw); go_simp; try (with_reducible rfl)); (try simp only [Act.put, List.setIfInBounds_toArray, List.set_cons_zero, List.set_cons_succ])
  refine wpAnyH_take (i := 5) (v := ?_) rfl (by kernel_rfl) (by kernel_rfl) (by kernel_rfl) (fun _ _ _ h => h) (Or.inl ⟨by kernel_rfl, ?_⟩) (by assumption) ?_; rotate_left; focus (intro w hSw; (try dsimp only at hSw); go_simp; try (with_reducible rfl)); (try simp only [Act.put, List.setIfInBounds_toArray, List.set_cons_zero, List.set_cons_succ])
  refine wpAnyH_take (i := 6) (v := ?_) rfl (by kernel_rfl) (by kernel_rfl) (by kernel_rfl) (fun _ _ _ h => h) (Or.inl ⟨by kernel_rfl, ?_⟩) (by assumption) ?_; rotate_left; focus (intro w hSw; (try dsimp only at hSw); go_simp; try (with_reducible rfl)); (try simp only [Act.put, List.setIfInBounds_toArray, List.set_cons_zero, List.set_cons_succ])
  refine wpAnyH_take (i := 7) (v := ?_) rfl (by kernel_rfl) (by kernel_rfl) (by kernel_rfl) (fun _ _ _ h => h) (Or.inl ⟨by kernel_rfl, ?_⟩) (by assumption) ?_; rotate_left; focus (intro w hSw; (try dsimp only at hSw); go_simp; try (with_reducible rfl)); (try simp only [Act.put, List.setIfInBounds_toArray, List.set_cons_zero, List.set_cons_succ])
  refine wpAnyH_ready (rs := [3]) (by kernel_rfl) (by simp) ?_
  refine AllReadyH.cons rfl (fun K hK => ?_) AllReadyH.nil
  go_simp
  go_at_call 48
  refine (next_any _ (by omega) (by omega) B g w1.drew DK.out).mono ?_
  rintro e w2 ⟨x, rfl, x0, x1, hd, k2⟩
  have DK := hide hd
  have kk : Keeps (· = g) w1 w2 := (Keeps.refl (· = g) w1).drew.trans k2
  have BX := hide (BX.out.kept kk hx)
  have C5 := hide (kk.cell_some C5.out h5)
  have KK := hide kk
  clear hd k2 kk
  try go_wp2_with fail
  refine hK.out _ _ C5.out (fun hHeld => ?_)
  clear hK K
  (try simp only [Act.put, List.setIfInBounds_toArray, List.set_cons_zero, List.set_cons_succ])
  have e3 : IntKind.u64.wrap x = x := IntWalk.u64_in _ (by omega)
  obtain ⟨q, hq, q0, q1⟩ := remq x (tot + 1) x0 (by omega)
  have e4 : IntKind.u64.wrap q = q := IntWalk.u64_in _ (by omega)
  refine wpAnyH_take (i := 4) (v := ?_) rfl (by kernel_rfl) (by kernel_rfl) (by kernel_rfl) (fun _ _ _ h => h) (Or.inl ⟨by kernel_rfl, ?_⟩) (by assumption) ?_; rotate_left; focus (intro w hSw; (try dsimp only at hSw); go_simp; try (with_reducible rfl)); (try simp only [Act.put, List.setIfInBounds_toArray, List.set_cons_zero, List.set_cons_succ])
  refine wpAnyH_take (i := 8) (v := ?_) rfl (by kernel_rfl) (by kernel_rfl) (by kernel_rfl) (fun _ _ _ h => h) (Or.inl ⟨by kernel_rfl, ?_⟩) (by assumption) ?_; rotate_left; focus (intro w hSw; (try dsimp only at hSw); go_simp; try (with_reducible rfl)); (try simp only [Act.put, List.setIfInBounds_toArray, List.set_cons_zero, List.set_cons_succ])
  refine wpAnyH_take (i := 9) (v := ?_) rfl (by kernel_rfl) (by kernel_rfl) (by kernel_rfl) (fun _ _ _ h => h) (Or.inl ⟨by kernel_rfl, ?_⟩) (by assumption) ?_; rotate_left; focus (intro w hSw; (try dsimp only at hSw); go_simp; try (with_reducible rfl)); (try simp only [Act.put, List.setIfInBounds_toArray, List.set_cons_zero, List.set_cons_succ])
  have p2 : w2.cell? ⟨gr, i, none⟩ = some (.int .u64 (zs.getD i 0)) := by rw [BX.out.cell]; have := HZ.out; simp [List.getD, show i < zs.length by omega]
  have f2 := BX.out.frozen i
  refine wpAnyH_ready (rs := [10]) (by kernel_rfl) (by simp) ?_
  refine AllReadyH.cons rfl (fun K hK => ?_) AllReadyH.nil
  go_simp
  have kS : Keeps (· = gr) w2 (w2.setCell ⟨gr, i, none⟩ (.int .u64 q)) := Keeps.setCell (S := (· = gr)) (p := ⟨gr, i, none⟩) (Keeps.refl _ _) (.inl rfl) _
  have hBs : Blk (w2.setCell ⟨gr, i, none⟩ (.int .u64 q)) gr 24 ((zs.set i q).map (.int .u64)).toArray := by
    have := BX.out.set i (.int .u64 q)
    simpa [List.map_set] using this
  refine hK.out _ _ (kS.cell_some C5.out (fun h => hx5 h.symm)) (fun hHeld => ?_)
  clear hK K
  (try simp only [Act.put, List.setIfInBounds_toArray, List.set_cons_zero, List.set_cons_succ])
  refine wpAnyH_done (by kernel_rfl) ?_ _
  refine ⟨q, ⟨q0, by omega⟩, hBs, DK.out.kept kS (fun h => hx h.symm) (fun b hb e => by omega), ?_, ⟨_, _, _, _, _, _, _, _, _, _, rfl⟩⟩
  exact ((Keeps.refl (fun b => b = g ∨ b = gr) w1).step KK.out (fun b hb e => Or.inl e)).step kS (fun b hb e => Or.inr e)
end dsum
end Go.Proofs.Ytaiopdipldaimaa

set_option linter.unusedVariables false
set_option linter.unusedSimpArgs false
namespace Go.Proofs.Ytaiopdipldaimaa
open Go.RowKit
namespace dsum
/-- the loops of a body, in the order of the text -/
def loops : Code → List Code
  | .loop c => c :: loops c
  | .seq a b => loops a ++ loops b
  | .block _ c => loops c
  | .scope c => loops c
  | .cond _ a b => loops a ++ loops b
  | _ => []
def LoopPostK (k : Nat) (W : Act → World → Prop) : Exit → Act → World → Prop
  | .exit i, a, w => i = k ∧ W a w
  | _, _, _ => False
noncomputable def lp1 : Code := ((Try.f24.body.bind fun c => (loops c)[0]?).getD .skip)
/-- the entries drawn so far, in memory -/
structure LSt (w0 : World) (B g X5 : Nat) (tot left : Int) (kb : Nat) (l : List Ln) (A : Option Addr) (cp : Nat) (wr : World) : Prop where
  ok : EOk tot left kb l
  own : Own wr w0.heap.size 99 3 A l.length cp (lnCs l)
  blk : Blk wr X5 45 #[.int .u64 tot, .slice A l.length cp, .int .u64 0, .slice none 0 0]
  dk : IsDeck wr B g
  kp : Keeps (fun b => b = g ∨ b = X5) w0 wr
set_option maxRecDepth 1000000 in
set_option maxHeartbeats 4000000 in
theorem loop1 (B g X5 : Nat) (w0 : World) (tot : Int) (t0 : 0 ≤ tot) (t2 : tot ≤ 9223372036854775808) (k : Int) (k0 : 0 ≤ k) (k4 : k ≤ 4) (hD : IsDeck w0 B g) (h5 : X5 ≠ g) (hB5 : B ≤ X5)
    (hB : Blk w0 X5 45 #[.int .u64 tot, .slice none 0 0, .int .u64 0, .slice none 0 0]) (s1 s2 s3 s4 s9 s10 s11 s12 s13 s14 s15 s16 s17 s18 s19 s20 s21 s22 s23 s24 s25 s26 s27 s28 s29 s30 s31 s32 s33 s34 s35 s36 s37 s38 s39 s40 s41 s42 s43 s44 s45 s46 s47 s48 s49 s50 s51 s52 s53 s54 s55 s56 s57 s58 s59 s60 s61 s62 s63 s64 s65 s66 s67 s68 s69 s70 s71 s72 s73 s74 s75 s76 s77 s78 s79 s80 s81 s82 s83 s84 s85 s86 s87 s88 s89 s90 s91 s92 s93 s94 s95 s96 s97 s98 s99 s100 s101 s102 s103 s104 s105 s106 s107 s108 s109 s110 s111 s112 s113 s114 s115 s116 s117 : Value) :
    Code.wp Try.prog (Code.loop lp1) (LoopPostK 0 fun a' w' => ∃ left kb l A cp, l.length ≤ 4 ∧ LSt w0 B g X5 tot left kb l A cp w' ∧ (∃ u6 u7 u8 u9 u30 u31 u32 u33 u34 u35 u36 u37 u38 u39 u40 u41 u42 u43 u44 u45 u46 u47 u48 u49 u50 u51 u52 u53 u54 u55 u56 u57 u58 u59 u60 u61 u62 u63 u64 u65 u66 u67 u68 u69 u70 u71 u72 u73 u74 : Value, a' = ⟨#[.pointer (some ⟨g, 0, none⟩), s1, s2, s3, s4, .pointer (some ⟨X5, 0, none⟩), u6, u7, u8, u9, s10, s11, s12, s13, s14, s15, s16, s17, s18, s19, s20, s21, s22, s23, s24, s25, s26, s27, s28, s29, u30, u31, u32, u33, u34, u35, u36, u37, u38, u39, u40, u41, u42, u43, u44, u45, u46, u47, u48, u49, u50, u51, u52, u53, u54, u55, u56, u57, u58, u59, u60, u61, u62, u63, u64, u65, u66, u67, u68, u69, u70, u71, u72, u73, u74, s75, s76, s77, s78, s79, s80, s81, s82, s83, s84, s85, s86, s87, s88, s89, s90, s91, s92, s93, s94, s95, s96, s97, s98, s99, s100, s101, s102, s103, s104, s105, s106, s107, s108, s109, s110, s111, s112, s113, s114, s115, s116, s117], []⟩)) ⟨#[.pointer (some ⟨g, 0, none⟩), s1, s2, s3, s4, .pointer (some ⟨X5, 0, none⟩), .int .u64 tot, .int .u8 97, .int .i64 k, s9, s10, s11, s12, s13, s14, s15, s16, s17, s18, s19, s20, s21, s22, s23, s24, s25, s26, s27, s28, s29, s30, s31, s32, s33, s34, s35, s36, s37, s38, s39, s40, s41, s42, s43, s44, s45, s46, s47, s48, s49, s50, s51, s52, s53, s54, s55, s56, s57, s58, s59, s60, s61, s62, s63, s64, s65, s66, s67, s68, s69, s70, s71, s72, s73, s74, s75, s76, s77, s78, s79, s80, s81, s82, s83, s84, s85, s86, s87, s88, s89, s90, s91, s92, s93, s94, s95, s96, s97, s98, s99, s100, s101, s102, s103, s104, s105, s106, s107, s108, s109, s110, s111, s112, s113, s114, s115, s116, s117], []⟩ w0 := by
  have hg0 := hD.lt
  have hX0 := hB.lt
  have hBg := hD.le
  have HI : Hid (LSt w0 B g X5 tot tot 97 [] none 0 w0) := hide ⟨EOk.nil tot t0 97, Own.nil _ _ _ _, hB, hD, Keeps.refl _ _⟩
  clear hB hD
  conv => arg 2; arg 1; whnf
  dsimp only
  go_loopw [6, 7, 8] (fun lv yv kv wr => ∃ (left : Int) (kb : Nat) (k : Int) (l : List Ln) (A : Option Addr) (cp : Nat), (0 ≤ k ∧ (l.length : Int) + k ≤ 4) ∧ (97 ≤ kb ∧ (kb : Int) + 3 * k ≤ 109) ∧ lv = .int .u64 left ∧ yv = .int .u8 (kb : Int) ∧ kv = .int .i64 k ∧ Hid (LSt w0 B g X5 tot left kb l A cp wr)) (fun _ _ kv _ => (intOf kv).toNat)
  case atStart => exact ⟨tot, 97, k, [], none, 0, ⟨k0, by simpa using k4⟩, ⟨by omega, by omega⟩, rfl, rfl, rfl, HI⟩
  case round =>
    obtain ⟨left, kb, k, l, A, cp, ⟨hk0, hk4⟩, ⟨hkb0, hkb1⟩, rfl, rfl, rfl, HL⟩ := hrel
    have hlt0 := HL.out.ok.left0
    have hsum := HL.out.ok.sum
    by_cases h1 : 0 < k
    · by_cases h2 : 0 < left
      · have hltot : left ≤ tot := by
          have : ∀ l : List Ln, (∀ x ∈ l, 1 ≤ x.lo) → 0 ≤ (l.map Ln.lo).sum := by
            intro l hl
            induction l with
            | nil => simp
            | cons x l ih =>
              have h1 := hl x (by simp)
              have h2 := ih (fun y hy => hl y (by simp [hy]))
              simp; omega
          have := this l (fun x hx => (HL.out.ok.own x hx).1)
          omega
        have DK := hide HL.out.dk
        have HK : Hid (k ≤ 4 ∧ 1 ≤ k) := by show _ ∧ _; omega
        clear hsum
        go_wp2_with fail
        refine (next_any _ (by omega) (by omega) B g wr DK.out).mono ?_
        rintro e w2 ⟨x, rfl, x0, x1, hd, k2⟩
        have e1 : IntKind.i64.wrap (1 + x) = 1 + x := IntWalk.i64_in _ (by omega)
        have e2 : IntKind.u8.wrap (1 + x) = 1 + x := by rw [IntKind.wrap_u8]; omega
        have e3 : IntKind.u8.wrap ((kb : Int) + (1 + x)) = (kb : Int) + (1 + x) := by rw [IntKind.wrap_u8]; omega
        have DK2 := hide hd
        have KK := hide (HL.out.kp.step k2 (fun b hb e => Or.inl e))
        have BL := hide (HL.out.blk.kept k2 h5)
        have hownb : ∀ b, inB A b → b ≠ g := fun b hb e => by have := (HL.out.own.inB hb).1; omega
        have OW := hide (HL.out.own.kept k2 (fun b hb e => hownb b hb e))
        have OKL := hide HL.out.ok
        have hAo : ∀ b, inB A b → b < w2.heap.size := fun b hb => (OW.out.inB hb).2
        clear hd k2 DK HL HI hownb
        go_upto_region 10 with fail
        trace "R10"
        clear e1 e2 e3
        obtain ⟨n, hn, hn1, hn2⟩ : ∃ n : Nat, (kb : Int) + (1 + x) = (n : Int) ∧ kb < n ∧ n ≤ kb + 3 := ⟨((kb : Int) + (1 + x)).toNat, by omega, by omega, by omega⟩
        rw [hn]
        clear hn x0 x1
        refine Code.wp_mono ?_ (reg10 B g w2 left (n : Int) (by omega) (by omega) (by omega) (by omega) DK2.out _ _ _ _ _ _ _ _ _ _ _ _ _ _ _ _ _ _ _ _ _ _ _ _ _ _ _ _ _ _ _ _ _ _ _ _ _ _ _ _ _ _ _ _ _ _ _ _ _ _ _ _ _ _ _ _ _ _ _ _ _ _ _ _ _ _ _ _ _ _ _ _ _ _ _ _ _ _ _ _ _ _ _ _ _ _ _ _ _ _ _ _ _ _ _ _ _ _ _ _ _ _ _ _ _ _ _ _ _ _ _ _ _ _ _)
        intro e a' w3 hex
        cases e <;> (first | exact hex.elim | skip)
        obtain ⟨gx, ⟨own, o1, o2, bx, hgx, dk3, k3⟩, ⟨v44, v45, v46, v47, v48, v49, v50, v51, v52, v53, rfl⟩⟩ := hex
        rw [show ((n : Int)).toNat = n from by omega] at bx
        have hk2 := KK.out.size
        have DK3 := hide dk3
        have BX3 := hide bx
        have KK := hide (KK.out.step k3 (fun b hb e => Or.inl e))
        have BL := hide (BL.out.kept k3 h5)
        have OW := hide (OW.out.kept k3 (fun b hb e => by have := (OW.out.inB hb).1; omega))
        have c5 : w3.cell? ⟨X5, 0, none⟩ = some (.int .u64 tot) := BL.out.cell 0
        clear dk3 bx k3 DK2
        dsimp only
        go_upto_region 11 with fail
        trace "R11"
        refine Code.wp_mono ?_ (reg11 B g X5 gx w3 tot own (keyOf n) o1 (by omega) t2 DK3.out c5 h5 (by omega) (by omega) (by omega) BX3.out _ _ _ _ _ _ _ _ _ _ _ _ _ _ _ _ _ _ _ _ _ _ _ _ _ _ _ _ _ _ _ _ _ _ _ _ _ _ _ _ _ _ _ _ _ _ _ _ _ _ _ _ _ _ _ _ _ _ _ _ _ _ _ _ _ _ _ _ _ _ _ _ _ _ _ _ _ _ _ _ _ _ _ _ _ _ _ _ _ _ _ _ _ _ _ _ _ _ _ _ _ _ _ _ _ _ _ _ _ _ _ _ _ _ _)
        intro e a' w4 hex
        cases e <;> (first | exact hex.elim | skip)
        obtain ⟨sl, ⟨sl0, sl1⟩, bx, dk4, k4', ⟨x54, x55, x56, x57, x58, x59, x60, x61, x62, x63, x64, rfl⟩⟩ := hex
        have DK4 := hide dk4
        have BX4 := hide bx
        have KK := hide (KK.out.step k4' (fun b hb e => by rcases e with e | e; exact Or.inl e; omega))
        have BL := hide (BL.out.kept k4' (by omega))
        have hgo : ∀ b, inB A b → b ≠ gx := fun b hb e => by have := hAo b hb; omega
        have OW := hide (OW.out.kept k4' (fun b hb e => by rcases e with e | e; (have := (OW.out.inB hb).1; omega); exact hgo b hb e))
        clear dk4 bx k4' DK3 BX3 c5 hgo hAo
        dsimp only
        have q1 : w4.cell? ⟨gx, 1, none⟩ = some (.int .u64 own) := BX4.out.cell 1
        have e1 : IntKind.u64.wrap (left - own) = left - own := IntWalk.u64_in _ (by omega)
        go_upto_region 13 with fail
        trace "R13"
        have q0 : w4.cell? ⟨gx, 0, none⟩ = some (.string (keyOf n)) := BX4.out.cell 0
        have q2 : w4.cell? ⟨gx, 2, none⟩ = some (.int .u64 sl) := BX4.out.cell 2
        have p1 : w4.cell? ⟨X5, 1, none⟩ = some (.slice A l.length cp) := BL.out.cell 1
        have hX4 := BL.out.lt
        have hOK : EOk tot (left - own) n (l ++ [⟨keyOf n, own, sl⟩]) := OKL.out.snoc hkb0 n (by omega) (by omega) own sl o1 o2 sl0 sl1
        have HOK := hide hOK
        have hll : l.length ≤ 4 := by omega
        have hw4 := KK.out.size
        obtain ⟨ll, hll2⟩ : ∃ ll, ll = l.length := ⟨_, rfl⟩
        rw [← hll2] at OW BL p1 hll hk4
        have HLL := hide hll2
        have kA := (Keeps.refl (fun _ => False) w4).alloc (.cells #[.string (keyOf n), .int .u64 own, .int .u64 sl] 99)
        have HOA := hide (OW.out.kept kA (fun _ _ h => h))
        have HRA := hide (show Rd (w4.alloc (.cells #[.string (keyOf n), .int .u64 own, .int .u64 sl] 99)) (w4.alloc (.cells #[.string (keyOf n), .int .u64 own, .int .u64 sl] 99)).heap.size (some ⟨w4.heap.size, 0, none⟩) 3 1 (lnCs [⟨keyOf n, own, sl⟩]) from (Blk.new w4 99 #[.string (keyOf n), .int .u64 own, .int .u64 sl]).rd (xs := [.string (keyOf n), .int .u64 own, .int .u64 sl]) (n := 1) (sz := 3) rfl)
        have HBA := hide (BL.out.kept kA (fun h => h))
        have HDA := hide (DK4.out.kept kA (fun h => h) (fun _ _ h => h))
        have HKA := hide (KK.out.step kA (fun _ _ h => h.elim))
        clear hll2 OKL hOK OW DK4 KK kA BL
        go_upto_region 8 with (at_builtin; refine wpList_app _ elemE rfl (.tmp 70) (.tmp 72) rfl w0.heap.size (lnCs l) rfl HOA.out _ (m := 1) (lnCs [⟨keyOf n, own, sl⟩]) rfl HRA.out (lnCs_one _) (by simp only [maxLen]; omega) (by omega) (by simp; omega) ?_; intro A7 c7 w7 o7 k7 _; rw [← lnCs_app] at o7; have O7 := hide o7; have hX27 : ∀ b, inB A b → w0.heap.size ≤ b := (fun b hb => (HOA.out.inB hb).1); have B7 := hide (HBA.out.kept k7 (fun h => by have := hX27 _ h; omega)); have D7 := hide (HDA.out.kept k7 (fun h => by have := hX27 _ h; omega) (fun b hb h => by have := hX27 _ h; omega)); have K7 := hide (HKA.out.step k7 (fun k hk h => by have := hX27 _ h; omega)); have q14 := B7.out.cell 1; have f14 := B7.out.frozen 1; clear o7 k7)
        trace "R8"
        have kS : Keeps (· = X5) w7 (w7.setCell ⟨X5, 1, none⟩ (.slice A7 (ll + 1) c7)) := Keeps.setCell (S := (· = X5)) (p := ⟨X5, 1, none⟩) (Keeps.refl _ _) (.inl rfl) _
        have hl1 : (l ++ [(⟨keyOf n, own, sl⟩ : Ln)]).length = ll + 1 := by rw [List.length_append, ← HLL.out]; rfl
        have HN : Hid (LSt w0 B g X5 tot (left - own) n (l ++ [⟨keyOf n, own, sl⟩]) A7 c7 (w7.setCell ⟨X5, 1, none⟩ (.slice A7 (ll + 1) c7))) := hide ⟨HOK.out, by rw [hl1]; exact O7.out.kept kS (fun b hb e => by have := (O7.out.inB hb).1; omega), by rw [hl1]; exact B7.out.set 1 _, D7.out.kept kS (fun h => h5 h.symm) (fun b hb e => by omega), K7.out.step kS (fun b hb e => Or.inr e)⟩
        have hkb : (kb : Int) + 3 * k ≤ 109 ∧ (n : Int) + 3 * (k - 1) ≤ 109 := by omega
        have HLN : Hid (((l ++ [(⟨keyOf n, own, sl⟩ : Ln)]).length : Int) + (k - 1) ≤ 4) := by show _ ≤ _; rw [hl1]; omega
        have HKN := hide hkb.2
        clear kS HOA HRA HBA HDA HKA O7 B7 D7 K7 q14 f14 q0 q1 q2 p1 HOK hkb hl1
        generalize w7.setCell _ _ = w8 at *
        have e5 : IntKind.i64.wrap (k - 1) = k - 1 := IntWalk.i64_in _ (by omega)
        go_wp2_with fail
        trace "ROUND"
        go_roundw
        case rel => exact ⟨left - own, n, k - 1, _, A7, c7, ⟨by have := HK.out; omega, HLN.out⟩, ⟨by omega, HKN.out⟩, rfl, rfl, by go_num, HN⟩
        case measure => have := HK.out; simp [intOf]; omega
      · have d2 : ¬ (0 < left) := h2
        clear HI
        go_wp2_with fail
        trace "END2"
        have HLL : l.length ≤ 4 := by omega
        first | exact ⟨rfl, left, kb, l, A, cp, HLL, HL.out, _, _, _, _, _, _, _, _, _, _, _, _, _, _, _, _, _, _, _, _, _, _, _, _, _, _, _, _, _, _, _, _, _, _, _, _, _, _, _, _, _, _, _, _, _, _, _, _, _, rfl⟩ | exact ⟨rfl, left, kb, l, HLL, ⟨A, cp, HL.out⟩, _, _, _, _, _, _, _, _, _, _, _, _, _, _, _, _, _, _, _, _, _, _, _, _, _, _, _, _, _, _, _, _, _, _, _, _, _, _, _, _, _, _, _, _, _, _, _, _, _, rfl⟩ | exact ⟨rfl, left, kb, l, ⟨HLL, ⟨A, cp, HL.out⟩⟩, _, _, _, _, _, _, _, _, _, _, _, _, _, _, _, _, _, _, _, _, _, _, _, _, _, _, _, _, _, _, _, _, _, _, _, _, _, _, _, _, _, _, _, _, _, _, _, _, _, rfl⟩ | (trace_state; fail)
    · have d1 : ¬ (0 < k) := h1
      clear HI
      go_wp2_with fail
      trace "END1"
      have HLL : l.length ≤ 4 := by omega
      first | exact ⟨rfl, left, kb, l, A, cp, HLL, HL.out, _, _, _, _, _, _, _, _, _, _, _, _, _, _, _, _, _, _, _, _, _, _, _, _, _, _, _, _, _, _, _, _, _, _, _, _, _, _, _, _, _, _, _, _, _, _, _, _, _, rfl⟩ | exact ⟨rfl, left, kb, l, HLL, ⟨A, cp, HL.out⟩, _, _, _, _, _, _, _, _, _, _, _, _, _, _, _, _, _, _, _, _, _, _, _, _, _, _, _, _, _, _, _, _, _, _, _, _, _, _, _, _, _, _, _, _, _, _, _, _, _, rfl⟩ | exact ⟨rfl, left, kb, l, ⟨HLL, ⟨A, cp, HL.out⟩⟩, _, _, _, _, _, _, _, _, _, _, _, _, _, _, _, _, _, _, _, _, _, _, _, _, _, _, _, _, _, _, _, _, _, _, _, _, _, _, _, _, _, _, _, _, _, _, _, _, _, rfl⟩ | (trace_state; fail)
end dsum
end Go.Proofs.Ytaiopdipldaimaa

set_option linter.unusedVariables false
set_option linter.unusedSimpArgs false
namespace Go.Proofs.Ytaiopdipldaimaa
open Go.RowKit
namespace dsum
theorem elemR : ElemOf Try.prog 43 31 1 24 := ElemOf.mk' (z := .slice none 0 0) Try.underlying43 (by kernel_rfl) rfl (by omega)
noncomputable def lp2 : Code := ((Try.f24.body.bind fun c => (loops c)[1]?).getD .skip)
noncomputable def lp3 : Code := ((Try.f24.body.bind fun c => (loops c)[2]?).getD .skip)
/-- a row drawn so far -/
def RowSt (w0 : World) (B g gr n : Nat) (tot : Int) (zs : List Int) (wr : World) : Prop :=
  zs.length = n ∧ (∀ z ∈ zs, 0 ≤ z ∧ z ≤ tot) ∧ Blk wr gr 24 (zs.map (.int .u64)).toArray ∧ IsDeck wr B g ∧ Keeps (fun b => b = g ∨ b = gr) w0 wr
set_option maxRecDepth 1000000 in
set_option maxHeartbeats 4000000 in
theorem loop3 (B g X5 gr n : Nat) (w0 : World) (tot : Int) (zs0 : List Int) (t0 : 0 ≤ tot) (t2 : tot ≤ 9223372036854775808) (hn : n ≤ 256) (c5 : w0.cell? ⟨X5, 0, none⟩ = some (.int .u64 tot)) (h5 : X5 ≠ g) (hx : gr ≠ g) (hx5 : gr ≠ X5) (hBx : B ≤ gr)
    (hS : RowSt w0 B g gr n tot zs0 w0) (s1 s2 s3 s4 s6 s7 s8 s9 s10 s12 s13 s14 s15 s16 s17 s18 s19 s20 s21 s22 s23 s24 s25 s26 s27 s28 s29 s30 s31 s32 s33 s34 s35 s36 s37 s38 s39 s40 s41 s42 s43 s44 s45 s46 s47 s48 s49 s50 s51 s52 s53 s54 s55 s56 s57 s58 s59 s60 s61 s62 s63 s64 s65 s66 s67 s68 s69 s70 s71 s72 s73 s74 s75 s76 s77 s78 s79 s80 s81 s82 s83 s84 s85 s86 s87 s88 s89 s90 s91 s92 s93 s94 s95 s98 s99 s100 s101 s102 s103 s104 s105 s106 s107 s108 s109 s110 s111 s112 s113 s114 s115 s116 s117 : Value) :
    Code.wp Try.prog (Code.loop lp3) (LoopPostK 4 fun a' w' => ∃ zs, RowSt w0 B g gr n tot zs w' ∧ (∃ u12 u97 u98 u99 u100 u101 u102 u103 u104 u105 u106 u107 u108 u109 u110 : Value, a' = ⟨#[.pointer (some ⟨g, 0, none⟩), s1, s2, s3, s4, .pointer (some ⟨X5, 0, none⟩), s6, s7, s8, s9, s10, .slice (some ⟨gr, 0, none⟩) n n, u12, s13, s14, s15, s16, s17, s18, s19, s20, s21, s22, s23, s24, s25, s26, s27, s28, s29, s30, s31, s32, s33, s34, s35, s36, s37, s38, s39, s40, s41, s42, s43, s44, s45, s46, s47, s48, s49, s50, s51, s52, s53, s54, s55, s56, s57, s58, s59, s60, s61, s62, s63, s64, s65, s66, s67, s68, s69, s70, s71, s72, s73, s74, s75, s76, s77, s78, s79, s80, s81, s82, s83, s84, s85, s86, s87, s88, s89, s90, s91, s92, s93, s94, s95, .int .i64 (n : Int), u97, u98, u99, u100, u101, u102, u103, u104, u105, u106, u107, u108, u109, u110, s111, s112, s113, s114, s115, s116, s117], []⟩)) ⟨#[.pointer (some ⟨g, 0, none⟩), s1, s2, s3, s4, .pointer (some ⟨X5, 0, none⟩), s6, s7, s8, s9, s10, .slice (some ⟨gr, 0, none⟩) n n, s12, s13, s14, s15, s16, s17, s18, s19, s20, s21, s22, s23, s24, s25, s26, s27, s28, s29, s30, s31, s32, s33, s34, s35, s36, s37, s38, s39, s40, s41, s42, s43, s44, s45, s46, s47, s48, s49, s50, s51, s52, s53, s54, s55, s56, s57, s58, s59, s60, s61, s62, s63, s64, s65, s66, s67, s68, s69, s70, s71, s72, s73, s74, s75, s76, s77, s78, s79, s80, s81, s82, s83, s84, s85, s86, s87, s88, s89, s90, s91, s92, s93, s94, s95, .int .i64 (n : Int), .int .i64 0, s98, s99, s100, s101, s102, s103, s104, s105, s106, s107, s108, s109, s110, s111, s112, s113, s114, s115, s116, s117], []⟩ w0 := by
  have HS := hide hS
  have C5 := hide c5
  clear hS c5
  conv => arg 2; arg 1; whnf
  dsimp only
  go_loopw [97] (fun iv wr => ∃ (i : Nat) (zs : List Int), i ≤ n ∧ iv = .int .i64 (i : Int) ∧ Hid (RowSt w0 B g gr n tot zs wr)) (fun iv _ => n - (intOf iv).toNat)
  case atStart => exact ⟨0, zs0, by omega, rfl, HS⟩
  case round =>
    obtain ⟨i, zs, hi, rfl, HR⟩ := hrel
    by_cases hlt : i < n
    · have HLT : Hid (i + 1 ≤ n) := hlt
      have hi0 : (0 : Int) ≤ (i : Int) := by omega
      have hi1 : (i : Int) < (n : Int) := by omega
      have hwr := HR.out.2.2.2.2
      have c5 : wr.cell? ⟨X5, 0, none⟩ = some (.int .u64 tot) := hwr.cell_some C5.out (by intro h; rcases h with h | h; exact h5 h; exact hx5 h.symm)
      clear hwr
      go_upto_region 23 with fail
      trace "R23"
      refine Code.wp_mono ?_ (reg23 B g X5 gr n i wr tot zs t0 t2 HR.out.2.2.2.1 c5 h5 hx hx5 hBx hlt hn HR.out.1 HR.out.2.2.1 _ _ _ _ _ _ _ _ _ _ _ _ _ _ _ _ _ _ _ _ _ _ _ _ _ _ _ _ _ _ _ _ _ _ _ _ _ _ _ _ _ _ _ _ _ _ _ _ _ _ _ _ _ _ _ _ _ _ _ _ _ _ _ _ _ _ _ _ _ _ _ _ _ _ _ _ _ _ _ _ _ _ _ _ _ _ _ _ _ _ _ _ _ _ _ _ _ _ _ _ _ _ _ _ _ _ _ _ _ _ _ _ _ _)
      intro e a' w3 hex
      cases e <;> (first | exact hex.elim | skip)
      obtain ⟨q, ⟨q0, q1⟩, bx, dk3, k3, ⟨v100, v101, v102, v103, v104, v105, v106, v107, v108, v109, rfl⟩⟩ := hex
      have HN : Hid (RowSt w0 B g gr n tot (zs.set i q) w3) := hide ⟨by rw [List.length_set]; exact HR.out.1, fun z hz => by
        rcases List.mem_or_eq_of_mem_set hz with h | h
        · exact HR.out.2.1 z h
        · subst h; exact ⟨q0, q1⟩, bx, dk3, HR.out.2.2.2.2.trans k3⟩
      clear bx dk3 k3 HR c5
      dsimp only
      go_wp2_with fail
      go_roundw
      case rel => exact ⟨i + 1, zs.set i q, HLT.out, by go_num, HN⟩
      case measure => have := HLT.out; simp [intOf]; omega
    · obtain rfl : i = n := by omega
      go_wp2_with fail
      trace "END"
      first | exact ⟨rfl, zs, HR.out, _, _, _, _, _, _, _, _, _, _, _, _, _, _, _, rfl⟩ | exact ⟨rfl, ⟨zs, HR.out⟩, _, _, _, _, _, _, _, _, _, _, _, _, _, _, _, rfl⟩ | (trace_state; fail)
/-- the rows drawn so far: their blocks and numbers -/
def rcs (n : Nat) (P : List (Nat × List Int)) : List Value := P.map fun p => .slice (some ⟨p.1, 0, none⟩) n n
def RwSt (w0 : World) (B g X5 n : Nat) (tot : Int) (vE vU : Value) (P : List (Nat × List Int)) (A : Option Addr) (cp : Nat) (wr : World) : Prop :=
  (∀ p ∈ P, w0.heap.size ≤ p.1 ∧ p.2.length = n ∧ (∀ z ∈ p.2, 0 ≤ z ∧ z ≤ tot) ∧ Blk wr p.1 24 (p.2.map (.int .u64)).toArray) ∧
  Own wr w0.heap.size 31 1 A P.length cp (rcs n P) ∧ Blk wr X5 45 #[.int .u64 tot, vE, vU, .slice A P.length cp] ∧ IsDeck wr B g ∧ Keeps (fun b => b = g ∨ b = X5) w0 wr
set_option maxRecDepth 1000000 in
set_option maxHeartbeats 4000000 in
theorem loop2 (B g X3 X5 n d : Nat) (w0 : World) (tot : Int) (vE vU : Value) (t0 : 0 ≤ tot) (t2 : tot ≤ 9223372036854775808) (hn : n ≤ 256) (hd : d ≤ 4) (h5 : X5 ≠ g) (h3 : X3 ≠ g) (h35 : X3 ≠ X5) (hB5 : B ≤ X5)
    (c10 : w0.cell? ⟨X3, 10, none⟩ = some (.int .i64 (d : Int))) (c11 : w0.cell? ⟨X3, 11, none⟩ = some (.int .i64 (n : Int)))
    (hS : RwSt w0 B g X5 n tot vE vU [] none 0 w0) (s1 s2 s4 s6 s7 s8 s9 s11 s12 s13 s14 s15 s16 s17 s18 s19 s20 s21 s22 s23 s24 s25 s26 s27 s28 s29 s30 s31 s32 s33 s34 s35 s36 s37 s38 s39 s40 s41 s42 s43 s44 s45 s46 s47 s48 s49 s50 s51 s52 s53 s54 s55 s56 s57 s58 s59 s60 s61 s62 s63 s64 s65 s66 s67 s68 s69 s70 s71 s72 s73 s74 s75 s76 s77 s78 s79 s80 s81 s82 s83 s84 s85 s86 s87 s88 s89 s90 s91 s92 s93 s94 s95 s96 s97 s98 s99 s100 s101 s102 s103 s104 s105 s106 s107 s108 s109 s110 s111 s112 s113 s114 s115 s116 s117 : Value) :
    Code.wp Try.prog (Code.loop lp2) (LoopPostK 2 fun a' w' => ∃ P A cp, P.length = d ∧ RwSt w0 B g X5 n tot vE vU P A cp w' ∧ (∃ u10 u11 u12 u86 u87 u88 u89 u90 u91 u92 u93 u94 u95 u96 u97 u98 u99 u100 u101 u102 u103 u104 u105 u106 u107 u108 u109 u110 u111 u112 u113 u114 u115 u116 : Value, a' = ⟨#[.pointer (some ⟨g, 0, none⟩), s1, s2, .pointer (some ⟨X3, 0, none⟩), s4, .pointer (some ⟨X5, 0, none⟩), s6, s7, s8, s9, u10, u11, u12, s13, s14, s15, s16, s17, s18, s19, s20, s21, s22, s23, s24, s25, s26, s27, s28, s29, s30, s31, s32, s33, s34, s35, s36, s37, s38, s39, s40, s41, s42, s43, s44, s45, s46, s47, s48, s49, s50, s51, s52, s53, s54, s55, s56, s57, s58, s59, s60, s61, s62, s63, s64, s65, s66, s67, s68, s69, s70, s71, s72, s73, s74, s75, s76, s77, s78, s79, s80, s81, s82, s83, s84, s85, u86, u87, u88, u89, u90, u91, u92, u93, u94, u95, u96, u97, u98, u99, u100, u101, u102, u103, u104, u105, u106, u107, u108, u109, u110, u111, u112, u113, u114, u115, u116, s117], []⟩)) ⟨#[.pointer (some ⟨g, 0, none⟩), s1, s2, .pointer (some ⟨X3, 0, none⟩), s4, .pointer (some ⟨X5, 0, none⟩), s6, s7, s8, s9, .int .i64 0, s11, s12, s13, s14, s15, s16, s17, s18, s19, s20, s21, s22, s23, s24, s25, s26, s27, s28, s29, s30, s31, s32, s33, s34, s35, s36, s37, s38, s39, s40, s41, s42, s43, s44, s45, s46, s47, s48, s49, s50, s51, s52, s53, s54, s55, s56, s57, s58, s59, s60, s61, s62, s63, s64, s65, s66, s67, s68, s69, s70, s71, s72, s73, s74, s75, s76, s77, s78, s79, s80, s81, s82, s83, s84, s85, s86, s87, s88, s89, s90, s91, s92, s93, s94, s95, s96, s97, s98, s99, s100, s101, s102, s103, s104, s105, s106, s107, s108, s109, s110, s111, s112, s113, s114, s115, s116, s117], []⟩ w0 := by
  have hg0 := hS.2.2.2.1.lt
  have hBg := hS.2.2.2.1.le
  have hX0 := hS.2.2.1.lt
  have HS := hide hS
  have C10 := hide c10
  have C11 := hide c11
  have hmk := fun w => run_make64 n (by omega) w
  clear hS c10 c11
  conv => arg 2; arg 1; whnf
  dsimp only
  go_loopw [10] (fun iv wr => ∃ (P : List (Nat × List Int)) (A : Option Addr) (cp : Nat), P.length ≤ d ∧ iv = .int .i64 (P.length : Int) ∧ Hid (RwSt w0 B g X5 n tot vE vU P A cp wr)) (fun iv _ => d - (intOf iv).toNat)
  case atStart => exact ⟨[], none, 0, by simp, rfl, HS⟩
  case round =>
    obtain ⟨P, A, cp, hi, rfl, HR⟩ := hrel
    obtain ⟨i, hil⟩ : ∃ i, i = P.length := ⟨_, rfl⟩
    have HIL := hide hil
    rw [← hil] at hi ⊢
    clear hil
    have hkw := HR.out.2.2.2.2
    have hdk := HR.out.2.2.2.1
    have c10 : wr.cell? ⟨X3, 10, none⟩ = some (.int .i64 (d : Int)) := hkw.cell_some C10.out (by intro h; rcases h with h | h; exact h3 h; exact h35 h)
    by_cases hlt : i < d
    · have HLT : Hid (i + 1 ≤ d) := hlt
      have hi0 : (0 : Int) ≤ (i : Int) := by omega
      have hi1 : (i : Int) < (d : Int) := by omega
      have c11 : wr.cell? ⟨X3, 11, none⟩ = some (.int .i64 (n : Int)) := hkw.cell_some C11.out (by intro h; rcases h with h | h; exact h3 h; exact h35 h)
      have hws := hkw.size
      have kA := (Keeps.refl (fun _ => False) wr).alloc (.cells (Array.replicate n (.int .u64 0)) 24)
      have HR2 : Hid (RowSt (wr.alloc (.cells (Array.replicate n (.int .u64 0)) 24)) B g wr.heap.size n tot (List.replicate n 0) (wr.alloc (.cells (Array.replicate n (.int .u64 0)) 24))) := hide ⟨by simp, fun z hz => by obtain ⟨_, rfl⟩ := List.mem_replicate.1 hz; omega, by rw [show ((List.replicate n (0 : Int)).map (Value.int .u64)).toArray = Array.replicate n (Value.int .u64 0) from by simp]; exact Blk.new _ _ _, hdk.kept kA (fun h => h) (fun _ _ h => h), Keeps.refl _ _⟩
      have c5 : (wr.alloc (.cells (Array.replicate n (.int .u64 0)) 24)).cell? ⟨X5, 0, none⟩ = some (.int .u64 tot) := (HR.out.2.2.1.kept kA (fun h => h)).cell 0
      have C5 := hide c5
      have HR0 : Hid (∀ w', Keeps (fun b => b = g ∨ b = wr.heap.size) (wr.alloc (.cells (Array.replicate n (.int .u64 0)) 24)) w' → Keeps (fun b => b = g ∨ b = wr.heap.size) wr w') := hide (fun w' k => ((Keeps.refl (fun b => b = g ∨ b = wr.heap.size) wr).step kA (fun _ _ h => h.elim)).trans k)
      have hPl : ∀ p ∈ P, p.1 < wr.heap.size := fun p hp => (HR.out.1 p hp).2.2.2.lt
      have hAl : ∀ b, inB A b → b < wr.heap.size := fun b hb => (HR.out.2.1.inB hb).2
      clear kA c5 hkw hdk
      go_upto_block 4 with fail
      trace "B4"
      generalize hwm : wr.alloc _ = wm at *
      generalize wr.heap.size = gr at *
      clear hmk hwm c10 c11
      go_wp2_with fail
      trace "L3"
      refine Code.wp_mono ?_ (loop3 B g X5 gr n wm tot (List.replicate n 0) t0 t2 hn C5.out h5 (by omega) (by omega) (by omega) HR2.out _ _ _ _ _ _ _ _ _ _ _ _ _ _ _ _ _ _ _ _ _ _ _ _ _ _ _ _ _ _ _ _ _ _ _ _ _ _ _ _ _ _ _ _ _ _ _ _ _ _ _ _ _ _ _ _ _ _ _ _ _ _ _ _ _ _ _ _ _ _ _ _ _ _ _ _ _ _ _ _ _ _ _ _ _ _ _ _ _ _ _ _ _ _ _ _ _ _ _ _ _ _ _ _ _ _ _ _ _ _ _ _ _)
      intro e a' w4 hex
      cases e <;> (first | exact hex.elim | skip)
      obtain ⟨rfl, zs, ⟨hz1, hz2, bz, dk4, k4⟩, ⟨v12, v97, v98, v99, v100, v101, v102, v103, v104, v105, v106, v107, v108, v109, v110, rfl⟩⟩ := hex
      have k4 := HR0.out _ k4
      have KK := hide (HR.out.2.2.2.2.step k4 (fun b hb e => by rcases e with e | e; exact Or.inl e; omega))
      have BL := hide (HR.out.2.2.1.kept k4 (by intro e; rcases e with e | e; exact h5 e; omega))
      have OW := hide (HR.out.2.1.kept k4 (fun b hb e => by rcases e with e | e; (have := (HR.out.2.1.inB hb).1; omega); (have := hAl b hb; omega)))
      have HP : Hid (∀ p ∈ P ++ [(gr, zs)], w0.heap.size ≤ p.1 ∧ p.2.length = n ∧ (∀ z ∈ p.2, 0 ≤ z ∧ z ≤ tot) ∧ Blk w4 p.1 24 (p.2.map (.int .u64)).toArray) := hide (fun p hp => by
        rcases List.mem_append.1 hp with h | h
        · obtain ⟨p1, p2, p3, p4⟩ := HR.out.1 p h
          have := hPl p h
          exact ⟨p1, p2, p3, p4.kept k4 (by intro e; rcases e with e | e <;> omega)⟩
        · obtain rfl : p = (gr, zs) := by simpa using h
          exact ⟨hws, hz1, hz2, bz⟩)
      have DK4 := hide dk4
      have hw4 := KK.out.size
      clear hz1 hz2 bz dk4 k4 HR HR0 HR2 C5 hPl hAl
      dsimp only
      rw [← HIL.out] at OW BL
      have p3 : w4.cell? ⟨X5, 3, none⟩ = some (.slice A i cp) := BL.out.cell 3
      have hX4 := BL.out.lt
      have kA := (Keeps.refl (fun _ => False) w4).alloc (.cells #[.slice (some ⟨gr, 0, none⟩) n n] 31)
      have HOA := hide (OW.out.kept kA (fun _ _ h => h))
      have HRA := hide (show Rd (w4.alloc (.cells #[.slice (some ⟨gr, 0, none⟩) n n] 31)) (w4.alloc (.cells #[.slice (some ⟨gr, 0, none⟩) n n] 31)).heap.size (some ⟨w4.heap.size, 0, none⟩) 1 1 [.slice (some ⟨gr, 0, none⟩) n n] from (Blk.new w4 31 #[.slice (some ⟨gr, 0, none⟩) n n]).rd (xs := [.slice (some ⟨gr, 0, none⟩) n n]) (n := 1) (sz := 1) rfl)
      have HBA := hide (BL.out.kept kA (fun h => h))
      have HDA := hide (DK4.out.kept kA (fun h => h) (fun _ _ h => h))
      have HKA := hide (KK.out.step kA (fun _ _ h => h.elim))
      have HPA : Hid (∀ p ∈ P ++ [(gr, zs)], w0.heap.size ≤ p.1 ∧ p.2.length = n ∧ (∀ z ∈ p.2, 0 ≤ z ∧ z ≤ tot) ∧ Blk (w4.alloc (.cells #[.slice (some ⟨gr, 0, none⟩) n n] 31)) p.1 24 (p.2.map (.int .u64)).toArray) := hide (fun p hp => ⟨(HP.out p hp).1, (HP.out p hp).2.1, (HP.out p hp).2.2.1, (HP.out p hp).2.2.2.kept kA (fun h => h)⟩)
      clear OW DK4 KK kA BL HP
      go_upto_region 18 with (at_builtin; refine wpList_app _ elemR rfl (.tmp 112) (.tmp 114) rfl w0.heap.size (rcs n P) rfl HOA.out _ (m := 1) [.slice (some ⟨gr, 0, none⟩) n n] rfl HRA.out (by simp [Value.oneCell']) (by simp only [maxLen]; omega) (by omega) (by simp; omega) ?_; intro A7 c7 w7 o7 k7 _; have O7 := hide o7; have hX27 : ∀ b, inB A b → w0.heap.size ≤ b := (fun b hb => (HOA.out.inB hb).1); have B7 := hide (HBA.out.kept k7 (fun h => by have := hX27 _ h; omega)); have D7 := hide (HDA.out.kept k7 (fun h => by have := hX27 _ h; omega) (fun b hb h => by have := hX27 _ h; omega)); have K7 := hide (HKA.out.step k7 (fun k hk h => by have := hX27 _ h; omega)); have P7 := hide (fun p hp => (HPA.out p hp).2.2.2.kept k7 (fun h => HOA.out.ne_blk (HPA.out p hp).2.2.2 (by decide) h rfl)); have q14 := B7.out.cell 3; have f14 := B7.out.frozen 3; clear o7 k7)
      trace "R18"
      have kS : Keeps (· = X5) w7 (w7.setCell ⟨X5, 3, none⟩ (.slice A7 (i + 1) c7)) := Keeps.setCell (S := (· = X5)) (p := ⟨X5, 3, none⟩) (Keeps.refl _ _) (.inl rfl) _
      have hl1 : (P ++ [(gr, zs)]).length = i + 1 := by rw [List.length_append, ← HIL.out]; rfl
      have hrc : rcs n P ++ [.slice (some ⟨gr, 0, none⟩) n n] = rcs n (P ++ [(gr, zs)]) := by simp [rcs]
      have HN : Hid (RwSt w0 B g X5 n tot vE vU (P ++ [(gr, zs)]) A7 c7 (w7.setCell ⟨X5, 3, none⟩ (.slice A7 (i + 1) c7))) := hide ⟨fun p hp => ⟨(HPA.out p hp).1, (HPA.out p hp).2.1, (HPA.out p hp).2.2.1, (P7.out p hp).kept kS (by have := (HPA.out p hp).1; omega)⟩, by rw [hl1, ← hrc]; exact O7.out.kept kS (fun b hb e => by have := (O7.out.inB hb).1; omega), by rw [hl1]; exact B7.out.set 3 _, D7.out.kept kS (fun h => h5 h.symm) (fun b hb e => by omega), K7.out.step kS (fun b hb e => Or.inr e)⟩
      have HL1 : Hid ((P ++ [(gr, zs)]).length = i + 1) := hide hl1
      clear kS HOA HRA HBA HDA HKA O7 B7 D7 K7 q14 f14 p3 P7 HPA hl1 hrc
      generalize w7.setCell _ _ = w8 at *
      go_wp2_with fail
      trace "ROUND"
      go_roundw
      case rel => exact ⟨P ++ [(gr, zs)], A7, c7, by rw [HL1.out]; exact HLT.out, by rw [HL1.out]; go_num, HN⟩
      case measure => have := HLT.out; simp [intOf]; omega
    · obtain rfl : i = d := by omega
      clear hmk hkw hdk
      go_wp2_with fail
      trace "END"
      first | exact ⟨rfl, P, A, cp, HIL.out.symm, HR.out, _, _, _, _, _, _, _, _, _, _, _, _, _, _, _, _, _, _, _, _, _, _, _, _, _, _, _, _, _, _, _, _, _, _, rfl⟩ | exact ⟨rfl, P, ⟨A, cp, HIL.out.symm, HR.out⟩, _, _, _, _, _, _, _, _, _, _, _, _, _, _, _, _, _, _, _, _, _, _, _, _, _, _, _, _, _, _, _, _, _, _, rfl⟩ | exact ⟨rfl, ⟨P, HIL.out.symm, ⟨A, cp, HR.out⟩⟩, _, _, _, _, _, _, _, _, _, _, _, _, _, _, _, _, _, _, _, _, _, _, _, _, _, _, _, _, _, _, _, _, _, _, rfl⟩ | exact ⟨rfl, P, HIL.out.symm, ⟨A, cp, HR.out⟩, _, _, _, _, _, _, _, _, _, _, _, _, _, _, _, _, _, _, _, _, _, _, _, _, _, _, _, _, _, _, _, _, _, _, rfl⟩ | (trace_state; fail)
end dsum
end Go.Proofs.Ytaiopdipldaimaa
