/-
  The reference's queue: a list of events in memory; Until and Weight. No conditions beyond those of the statement. The reference's list of keys: with, Keys. No conditions beyond those of the statement. The reference's Usage of one shard that has a queue alone. No conditions beyond those of the statement. QueueSteps: what stands between two rounds; usage and questions of the queue. No conditions beyond those of the statement.
-/
import Derived.Test.YtidobhflijdccaaQe
import Derived.Test.YtidobhflijdccaaQi
import Derived.Test.YtidobhflijdccaaBf
import Derived.Test.YtidobhflijdccaaHn
import Derived.Test.YtidobhflijdccaaGD
set_option linter.unusedVariables false
set_option linter.unusedSimpArgs false
namespace Go.Proofs.Ytidobhflijdccaa
open Go.RowKit Cfp
def rwC (x : Wt) : List Value := [.int .i64 x.win, .string ⟨x.text.toArray⟩, .int .i64 x.time, .int .u64 x.wgt]
def rwCs (l : List Wt) : List Value := l.flatMap rwC
theorem rwCs_len (l : List Wt) : (rwCs l).length = l.length * 4 := flat_len _ 4 (fun _ => rfl) l
theorem rwCs_at {l : List Wt} {i : Nat} {x : Wt} (h : l[i]? = some x) (k : Nat) (hk : k < 4) : (rwCs l)[i * 4 + k]? = (rwC x)[k]? := flat_get _ 4 (fun _ => rfl) l i k x h hk
theorem rwCs_app (l m : List Wt) : rwCs (l ++ m) = rwCs l ++ rwCs m := List.flatMap_append
theorem rwCs_one (l : List Wt) : ∀ u ∈ rwCs l, u.oneCell' = true := by
  intro u hu
  unfold rwCs at hu
  rw [List.mem_flatMap] at hu
  obtain ⟨c, _, hu⟩ := hu
  simp [rwC] at hu
  rcases hu with rfl | rfl | rfl | rfl <;> rfl
theorem rwCs_drop (l : List Wt) (k : Nat) : rwCs (l.drop k) = (rwCs l).drop (k * 4) := by
  rcases Nat.lt_or_ge k l.length with h | h
  · have e : rwCs l = rwCs (l.take k) ++ rwCs (l.drop k) := by rw [← rwCs_app, List.take_append_drop]
    rw [e, List.drop_left' (by rw [rwCs_len, List.length_take]; omega)]
  · rw [List.drop_of_length_le h, List.drop_of_length_le (by rw [rwCs_len]; omega)]
    rfl
theorem elemRw : ElemOf Try.prog 99 102 4 40 := ElemOf.mk' (z := .agg #[.int .i64 0, .string ⟨#[]⟩, .int .i64 0, .int .u64 0]) Try.underlying99 (by kernel_rfl) rfl (by omega)
theorem text_eq (l : List UInt8) (t : ByteArray) : (l == t.toList) = true ↔ l = t.data.toList := by
  rw [beq_iff_eq, ByteArray.toList_eq]
theorem Rd.keptB {w w' : World} {sz n : Nat} {A : Option Addr} {xs : List Value} {S : Nat → Prop} (h : Rd w w.heap.size A sz n xs) (k : Keeps S w w') (hs : ∀ b, inB A b → ¬ S b) : Rd w' w'.heap.size A sz n xs := by
  refine ⟨h.1, fun hn => ?_⟩
  obtain ⟨b, off, rfl, hb, hc⟩ := h.2 hn
  exact ⟨b, off, rfl, Nat.lt_of_lt_of_le hb k.size, fun j u hu => k.cell_some (hc j u hu) (hs b ⟨_, rfl, rfl⟩)⟩
/-- the reference's list of events -/
structure WL (w : World) (base : Nat) (A : Option Addr) (n : Nat) (W : List Wt) : Prop where
  len : W.length = n
  rd : Rd w w.heap.size A 4 n (rwCs W)
  bl : ∀ k, inB A k → base ≤ k ∧ ∃ cs, Blk w k 102 cs
section
variable {w w' : World} {base n c : Nat} {A : Option Addr} {W : List Wt} {S : Nat → Prop}
theorem WL.nil (w : World) (base : Nat) : WL w base none 0 [] := ⟨rfl, Rd.zero rfl, fun k h => absurd h (inB_none k)⟩
theorem WL.kept (h : WL w base A n W) (k : Keeps S w w') (hs : ∀ b cs, Blk w b 102 cs → base ≤ b → ¬ S b) : WL w' base A n W :=
  ⟨h.len, h.rd.keptB k (fun b hb => by obtain ⟨h1, cs, h2⟩ := h.bl b hb; exact hs b cs h2 h1), fun b hb => by obtain ⟨h1, cs, h2⟩ := h.bl b hb; exact ⟨h1, cs, h2.kept k (hs b cs h2 h1)⟩⟩
theorem WL.quiet (h : WL w base A n W) (k : Keeps (fun _ => False) w w') : WL w' base A n W := h.kept k (fun _ _ _ _ h => h)
theorem WL.own (o : Own w base 102 4 A n c (rwCs W)) : WL w base A n W :=
  ⟨by have := o.len; rw [rwCs_len] at this; omega, o.rd (by omega), fun k hk => ⟨(o.inB hk).1, o.blk hk⟩⟩
theorem WL.at (h : WL w base A n W) {i : Nat} {x : Wt} (hx : W[i]? = some x) : ∃ b off, A = some ⟨b, off, none⟩ ∧ b < w.heap.size ∧ w.cell? ⟨b, off + i * 4, none⟩ = some (.int .i64 x.win) ∧ w.cell? ⟨b, off + i * 4 + 1, none⟩ = some (.string ⟨x.text.toArray⟩) ∧ w.cell? ⟨b, off + i * 4 + 2, none⟩ = some (.int .i64 x.time) ∧ w.cell? ⟨b, off + i * 4 + 3, none⟩ = some (.int .u64 x.wgt) := by
  have hi := (List.getElem?_eq_some_iff.1 hx).1
  obtain ⟨b, off, rfl, hb, hc⟩ := h.rd.2 (by have := h.len; omega)
  have c0 := hc (i * 4 + 0) _ ((rwCs_at hx 0 (by omega)).trans rfl)
  have c1 := hc (i * 4 + 1) _ ((rwCs_at hx 1 (by omega)).trans rfl)
  have c2 := hc (i * 4 + 2) _ ((rwCs_at hx 2 (by omega)).trans rfl)
  have c3 := hc (i * 4 + 3) _ ((rwCs_at hx 3 (by omega)).trans rfl)
  rw [Nat.add_zero] at c0
  rw [← Nat.add_assoc] at c1 c2 c3
  exact ⟨b, off, rfl, hb, c0, c1, c2, c3⟩
end
theorem untilN_snoc (z : Int) (x : Wt) : ∀ l : List Wt, untilN z (l ++ [x]) = if x.win ≤ z then l.length + 1 else untilN z l
  | [] => by simp [untilN]
  | y :: l => by
    have ih := untilN_snoc z x l
    show (if 0 < untilN z (l ++ [x]) then untilN z (l ++ [x]) + 1 else if y.win ≤ z then 1 else 0) = _
    rw [ih]
    by_cases h : x.win ≤ z
    · rw [if_pos h, if_pos h, if_pos (by omega)]
      rfl
    · rw [if_neg h, if_neg h]
      rfl
theorem untilN_le (z : Int) : ∀ l : List Wt, untilN z l ≤ l.length
  | [] => Nat.le_refl _
  | y :: l => by
    have ih := untilN_le z l
    show (if 0 < untilN z l then untilN z l + 1 else if y.win ≤ z then 1 else 0) ≤ l.length + 1
    split
    · omega
    · split <;> omega
set_option maxRecDepth 100000 in
set_option maxHeartbeats 1000000 in
theorem runtil_any (w : World) (base : Nat) (A : Option Addr) (n c : Nat) (W : List Wt) (h : WL w base A n W) (hn : n ≤ 1000000) (z : Int) :
    Calls Try.prog 64 #[.slice A n c, .int .i64 z] w fun e w' => e = .returned (.int .i64 (untilN z W : Int)) ∧ Keeps (fun _ => False) w w' := by
  have H := hide h
  have HL := hide h.len
  clear h
  go_enter Try.func64, Try.ntmps64
  go_upto_region 3 with fail
  go_loopw [5, 6, 7, 10] (fun nv _ _ iv wr => ∃ k u : Nat, k ≤ n ∧ u ≤ k ∧ iv = .int .i64 (k : Int) ∧ nv = .int .i64 (u : Int) ∧ Hid (u = untilN z (W.take k)) ∧ Hid (Keeps (fun _ => False) w wr)) (fun _ _ _ iv _ => n - (intOf iv).toNat)
  case atStart => exact ⟨0, 0, by omega, by omega, rfl, rfl, hide rfl, hide (Keeps.refl _ _)⟩
  case round =>
    obtain ⟨k, u, hk, hu, rfl, rfl, HU, HK⟩ := hrel
    by_cases hlt : k < n
    · have e1 : decide ((k : Int) < (n : Int)) = true := by simpa using hlt
      have e1n : decide (k < n) = true := by simpa using hlt
      obtain ⟨x, hx⟩ : ∃ x, W[k]? = some x := ⟨W[k]'(by rw [HL.out]; exact hlt), List.getElem?_eq_getElem _⟩
      have hsn : untilN z (W.take (k + 1)) = if x.win ≤ z then k + 1 else untilN z (W.take k) := by
        rw [List.take_add_one, hx, Option.toList_some, untilN_snoc, List.length_take, Nat.min_eq_left (by have := HL.out; omega)]
      obtain ⟨b, off, rfl, hb, c0, c1, c2, c3⟩ := (H.out.quiet HK.out).at hx
      have hkI : (k : Int) < (n : Int) := by omega
      have hk0 : (0 : Int) ≤ (k : Int) := by omega
      have HSn := hide hsn
      have HK2 := fun o => hide (HK.out.alloc o)
      clear hx hsn
      by_cases hz : x.win ≤ z
      · have e2 : decide (x.win ≤ z) = true := by simpa using hz
        have HU2 : Hid (k + 1 = untilN z (W.take (k + 1))) := hide (by rw [HSn.out, if_pos hz])
        clear hz
        go_wp2_with fail
        go_roundw
        case rel => exact ⟨k + 1, k + 1, by omega, by omega, by go_num, by go_num, HU2, HK2 _⟩
        case measure => simp [intOf]; omega
      · have e2 : decide (x.win ≤ z) = false := by simpa using hz
        have HU2 : Hid (u = untilN z (W.take (k + 1))) := hide (by rw [HSn.out, if_neg hz, ← HU.out])
        clear hz
        go_wp2_with fail
        go_roundw
        case rel => exact ⟨k + 1, u, by omega, by omega, by go_num, rfl, HU2, HK2 _⟩
        case measure => simp [intOf]; omega
    · have e1 : decide ((k : Int) < (n : Int)) = false := by simpa using hlt
      have e1n : decide (k < n) = false := by simpa using hlt
      have HU2 : Hid (u = untilN z W) := hide (by rw [HU.out, List.take_of_length_le (by have := HL.out; omega)])
      go_wp2_with fail
      go_ret
      exact ⟨ret_int (by rw [HU2.out]), HK.out⟩
theorem rsum_any (a b : Int) (ha : 0 ≤ a) (ha' : a < 18446744073709551616) (hb : 0 ≤ b) (hb' : b < 18446744073709551616) (w : World) :
    Calls Try.prog 75 #[.int .u64 a, .int .u64 b] w fun e w' => e = .returned (.int .u64 (Sat.add a b)) ∧ Keeps (fun _ => False) w w' := by
  have H := hide (Sat.radd_any a b ha ha' hb hb')
  go_enter Try.func75, Try.ntmps75
  go_wp2_with fail
  refine (H.out w).mono ?_
  rintro e w1 ⟨rfl, rfl⟩
  go_wp2_with fail
  go_ret
  exact ⟨rfl, Keeps.refl _ _⟩
set_option maxRecDepth 100000 in
set_option maxHeartbeats 1000000 in
theorem rweight_any (w : World) (base : Nat) (A : Option Addr) (n c : Nat) (W : List Wt) (h : WL w base A n W) (hn : n ≤ 1000000) (hw : WgB W) (z : Int) (t : ByteArray) :
    Calls Try.prog 65 #[.slice A n c, .int .i64 z, .string t] w fun e w' => e = .returned (.int .u64 (wgtF z t.data.toList W)) ∧ Keeps (fun _ => False) w w' := by
  have H := hide h
  have HL := hide h.len
  have HB := hide hw
  clear h hw
  go_enter Try.func65, Try.ntmps65
  go_upto_region 3 with fail
  go_loopw [7, 9, 12] (fun nv _ iv wr => ∃ k : Nat, k ≤ n ∧ iv = .int .i64 (k : Int) ∧ nv = .int .u64 (wgtF z t.data.toList (W.take k)) ∧ Hid (Keeps (fun _ => False) w wr)) (fun _ _ iv _ => n - (intOf iv).toNat)
  case atStart => exact ⟨0, by omega, rfl, by simp [wgtF], hide (Keeps.refl _ _)⟩
  case round =>
    obtain ⟨k, hk, rfl, rfl, HK⟩ := hrel
    by_cases hlt : k < n
    · have e1 : decide ((k : Int) < (n : Int)) = true := by simpa using hlt
      have e1n : decide (k < n) = true := by simpa using hlt
      obtain ⟨x, hx⟩ : ∃ x, W[k]? = some x := ⟨W[k]'(by rw [HL.out]; exact hlt), List.getElem?_eq_getElem _⟩
      have hsn : wgtF z t.data.toList (W.take (k + 1)) = if x.win = z ∧ x.text = t.data.toList then Sat.add (wgtF z t.data.toList (W.take k)) x.wgt else wgtF z t.data.toList (W.take k) := by
        rw [List.take_add_one, hx, Option.toList_some, wgtF_snoc]
      have hab := wgtF_bd z t.data.toList W HB.out k
      have hxw := HB.out x (List.mem_of_getElem? hx)
      obtain ⟨b, off, rfl, hb, c0, c1, c2, c3⟩ := (H.out.quiet HK.out).at hx
      have hkI : (k : Int) < (n : Int) := by omega
      have hk0 : (0 : Int) ≤ (k : Int) := by omega
      obtain ⟨acc, hacc⟩ : ∃ acc, acc = wgtF z t.data.toList (W.take k) := ⟨_, rfl⟩
      rw [← hacc] at hab hsn
      rw [← hacc]
      have HSn := hide hsn
      have HK2 := fun o => hide (HK.out.alloc o)
      have HTx := hide (text_eq x.text t)
      clear hx hsn hacc
      by_cases hz : x.win = z
      · have e2 : (x.win == z) = true := by simpa using hz
        have HZ := hide hz
        clear hz
        rcases hq : (x.text == t.toList) with _ | _
        · have HS2 : Hid (wgtF z t.data.toList (W.take (k + 1)) = acc) := hide (by rw [HSn.out, if_neg (fun h => by rw [HTx.out.2 h.2] at hq; cases hq)])
          clear HTx
          go_wp2_with fail
          go_roundw
          case rel => exact ⟨k + 1, by omega, by go_num, by rw [HS2.out], HK2 _⟩
          case measure => simp [intOf]; omega
        · have HS2 : Hid (wgtF z t.data.toList (W.take (k + 1)) = Sat.add acc x.wgt) := hide (by rw [HSn.out, if_pos ⟨HZ.out, HTx.out.1 hq⟩])
          clear HTx
          go_wp2_with fail
          refine (rsum_any acc x.wgt hab.1 hab.2 hxw.1 hxw.2 _).mono ?_
          rintro e w3 ⟨rfl, k3⟩
          have K3 := hide ((HK.out.alloc _).trans k3)
          clear k3
          go_wp2_with fail
          go_roundw
          case rel => exact ⟨k + 1, by omega, by go_num, by rw [HS2.out], K3⟩
          case measure => simp [intOf]; omega
      · have e2 : (x.win == z) = false := by simpa using hz
        have HS2 : Hid (wgtF z t.data.toList (W.take (k + 1)) = acc) := hide (by rw [HSn.out, if_neg (fun h => hz h.1)])
        clear hz HTx
        go_wp2_with fail
        go_roundw
        case rel => exact ⟨k + 1, by omega, by go_num, by rw [HS2.out], HK2 _⟩
        case measure => simp [intOf]; omega
    · have e1 : decide ((k : Int) < (n : Int)) = false := by simpa using hlt
      have e1n : decide (k < n) = false := by simpa using hlt
      have HU2 : Hid (wgtF z t.data.toList (W.take k) = wgtF z t.data.toList W) := hide (by rw [List.take_of_length_le (by have := HL.out; omega)])
      go_wp2_with fail
      go_ret
      exact ⟨ret_int (by rw [HU2.out]), HK.out⟩
end Go.Proofs.Ytidobhflijdccaa

set_option linter.unusedVariables false
set_option linter.unusedSimpArgs false
namespace Go.Proofs.Ytidobhflijdccaa
open Go.RowKit Cfp
abbrev Txt := List UInt8
def addK (l : List Txt) (k : Txt) : List Txt := if k ∈ l then l else l ++ [k]
/-- the keys of events, each once -/
def keysOf (W : List Wt) : List Txt := W.foldl (fun l x => addK l x.text) []
theorem keysOf_snoc (W : List Wt) (x : Wt) : keysOf (W ++ [x]) = addK (keysOf W) x.text := by
  unfold keysOf
  rw [List.foldl_append]
  rfl
theorem mem_addK {l : List Txt} {k a : Txt} : a ∈ addK l k ↔ a ∈ l ∨ a = k := by
  unfold addK
  split
  · next h => exact ⟨.inl, fun q => q.elim id (fun e => e ▸ h)⟩
  · simp
theorem addK_len (l : List Txt) (k : Txt) : (addK l k).length ≤ l.length + 1 := by
  unfold addK
  split <;> simp
theorem mem_keys : ∀ (W : List Wt) (l : List Txt) (a : Txt), a ∈ W.foldl (fun l x => addK l x.text) l ↔ a ∈ l ∨ ∃ x ∈ W, x.text = a
  | [], l, a => by simp
  | y :: W, l, a => by
    rw [List.foldl_cons, mem_keys W, mem_addK]
    constructor
    · rintro ((h | h) | ⟨x, hx, h⟩)
      · exact .inl h
      · exact .inr ⟨y, List.mem_cons_self .., h.symm⟩
      · exact .inr ⟨x, List.mem_cons_of_mem _ hx, h⟩
    · rintro (h | ⟨x, hx, h⟩)
      · exact .inl (.inl h)
      · rcases List.mem_cons.1 hx with rfl | hx
        · exact .inl (.inr h.symm)
        · exact .inr ⟨x, hx, h⟩
theorem keys_once : ∀ (W : List Wt) (l : List Txt), (∀ a, l.count a ≤ 1) → ∀ a, (W.foldl (fun l x => addK l x.text) l).count a ≤ 1
  | [], l, h => h
  | y :: W, l, h => by
    rw [List.foldl_cons]
    refine keys_once W _ (fun a => ?_)
    unfold addK
    split
    · exact h a
    · next hn =>
      rw [List.count_append, List.count_singleton]
      by_cases e : y.text = a
      · subst e
        rw [List.count_eq_zero.2 hn]
        simp
      · have : (y.text == a) = false := by simpa using e
        rw [this]
        exact h a
theorem keysOf_len (W : List Wt) : ∀ l : List Txt, (W.foldl (fun l x => addK l x.text) l).length ≤ l.length + W.length := by
  induction W with
  | nil => intro l; simp
  | cons x W ih =>
    intro l
    rw [List.foldl_cons]
    have := ih (addK l x.text)
    have := addK_len l x.text
    simp only [List.length_cons]
    omega
/-- the keys in use -/
def usedK : List PE → List Txt
  | [] => []
  | e :: l => if 0 < e.users then e.key :: usedK l else usedK l
theorem mem_usedK {a : Txt} : ∀ {E : List PE}, a ∈ usedK E ↔ ∃ e ∈ E, 0 < e.users ∧ e.key = a
  | [] => by simp [usedK]
  | e :: l => by
    unfold usedK
    split
    · next h =>
      rw [List.mem_cons, mem_usedK]
      constructor
      · rintro (h1 | ⟨x, hx, h2⟩)
        · exact ⟨e, List.mem_cons_self .., h, h1.symm⟩
        · exact ⟨x, List.mem_cons_of_mem _ hx, h2⟩
      · rintro ⟨x, hx, h2⟩
        rcases List.mem_cons.1 hx with rfl | hx
        · exact .inl h2.2.symm
        · exact .inr ⟨x, hx, h2⟩
    · next h =>
      rw [mem_usedK]
      constructor
      · rintro ⟨x, hx, h2⟩
        exact ⟨x, List.mem_cons_of_mem _ hx, h2⟩
      · rintro ⟨x, hx, h2⟩
        rcases List.mem_cons.1 hx with rfl | hx
        · exact absurd h2.1 h
        · exact ⟨x, hx, h2⟩
theorem usedK_once : ∀ (E : List PE), (∀ (i j : Nat) (e e' : PE), E[i]? = some e → E[j]? = some e' → 0 < e.users → 0 < e'.users → e.key = e'.key → i = j) → ∀ a, (usedK E).count a ≤ 1
  | [], _, a => by simp [usedK]
  | e :: l, h, a => by
    have ih := usedK_once l (fun i j x y hx hy => by
      intro h1 h2 h3
      have := h (i + 1) (j + 1) x y (by simpa using hx) (by simpa using hy) h1 h2 h3
      omega)
    unfold usedK
    split
    · next hu =>
      rw [List.count_cons]
      by_cases e1 : e.key = a
      · have h0 : (usedK l).count a = 0 := List.count_eq_zero.2 (fun hm => by
          obtain ⟨x, hx, hxu, hxk⟩ := mem_usedK.1 hm
          obtain ⟨j, hj⟩ := List.getElem?_of_mem hx
          have := h 0 (j + 1) e x rfl (by simpa using hj) hu hxu (by rw [e1, hxk])
          omega)
        rw [h0]
        split <;> omega
      · have : (e.key == a) = false := by simpa using e1
        rw [this]
        have := ih a
        simp only [Bool.false_eq_true, if_false]
        omega
    · exact ih a
theorem cntF_usedK (sh : List (Int × Int)) (i : Nat) : ∀ E : List PE, cntF sh i E = (usedK E).countP (fun k => decide (fitS sh k.length = i))
  | [] => rfl
  | e :: l => by
    have ih := cntF_usedK sh i l
    unfold usedK
    simp only [cntF]
    rw [ih]
    by_cases hu : 0 < e.users
    · rw [if_pos hu, List.countP_cons]
      by_cases hf : fitS sh e.key.length = i
      · rw [if_pos ⟨hu, hf⟩, if_pos (by simpa using hf)]
        omega
      · rw [if_neg (fun q => hf q.2), if_neg (by simpa using hf)]
        omega
    · rw [if_neg hu, if_neg (fun q => hu q.1)]
      omega
/-- the pool's keys by class are those of the events -/
theorem QInv.keys {sh : List (Int × Int)} {W : List Wt} {E : List PE} {s : Ar} {L : Nat → List Nat} {D : KD} {M M2 : Int} (h : QInv sh W E s L D M M2) (i : Nat) : cntF sh i E = (keysOf W).countP (fun k => decide (fitS sh k.length = i)) := by
  rw [cntF_usedK]
  refine List.Perm.countP_eq _ (List.perm_iff_count.2 fun a => ?_)
  have h1 := usedK_once E (fun i j e e' => h.pv.un i j e e') a
  have h2 := keys_once W [] (fun a => by simp) a
  have h3 : a ∈ usedK E ↔ a ∈ keysOf W := by
    rw [mem_usedK, keysOf, mem_keys]
    constructor
    · rintro ⟨e, he, hu, rfl⟩
      obtain ⟨j, hj⟩ := List.getElem?_of_mem he
      obtain ⟨x, hx, hk⟩ := h.event hj hu
      exact .inr ⟨x, hx, hk⟩
    · rintro (h4 | ⟨x, hx, rfl⟩)
      · simp at h4
      · obtain ⟨e, he, hk, hu, _⟩ := h.users hx
        exact ⟨e, List.mem_of_getElem? he, hu, hk⟩
  have h4 := List.count_pos_iff (l := usedK E) (a := a)
  have h5 := List.count_pos_iff (l := keysOf W) (a := a)
  show (usedK E).count a = (keysOf W).count a
  have h2' : (keysOf W).count a ≤ 1 := h2
  by_cases hm : a ∈ usedK E
  · have := h4.2 hm
    have := h5.2 (h3.1 hm)
    omega
  · have a1 : (usedK E).count a = 0 := List.count_eq_zero.2 hm
    have a2 : (keysOf W).count a = 0 := List.count_eq_zero.2 (fun q => hm (h3.2 q))
    omega
def txB (k : Txt) : ByteArray := ⟨k.toArray⟩
def txCs (l : List Txt) : List Value := l.map fun k => .string (txB k)
theorem txCs_one (l : List Txt) : ∀ u ∈ txCs l, u.oneCell' = true := by
  intro u hu
  obtain ⟨k, _, rfl⟩ := List.mem_map.1 hu
  rfl
theorem elemTx : ElemOf Try.prog 62 9 1 16 := ElemOf.mk' (z := .string ⟨#[]⟩) Try.underlying62 (by kernel_rfl) rfl (by omega)
theorem tx_eq (a b : Txt) : ((txB a).toList == (txB b).toList) = true ↔ a = b := by
  rw [beq_iff_eq, ByteArray.toList_eq, ByteArray.toList_eq]
  rfl
/-- what with gives -/
def Withs (base : Nat) (l : List Txt) (k : Txt) (w : World) (e : Ending) (w' : World) : Prop :=
  ∃ A n c, e = .returned (.slice A n c) ∧ n = (addK l k).length ∧ Own w' base 9 1 A n c (txCs (addK l k)) ∧ Keeps (fun _ => False) w w'
set_option maxRecDepth 100000 in
set_option maxHeartbeats 1000000 in
theorem with_any (w : World) (base : Nat) (A : Option Addr) (n c : Nat) (l : List Txt) (k : Txt) (h : Own w base 9 1 A n c (txCs l)) (hn : n ≤ 1000) (hb : base ≤ w.heap.size) :
    Calls Try.prog 81 #[.slice A n c, .string (txB k)] w (Withs base l k w) := by
  have H := hide h
  have HL : Hid (l.length = n) := hide (by have := h.len; simpa [txCs] using this)
  have HR := hide (h.rd (by omega))
  clear h
  go_enter Try.func81, Try.ntmps81
  go_upto_region 2 with fail
  go_loopw [6, 9] (fun _ iv wr => ∃ i : Nat, i ≤ n ∧ iv = .int .i64 (i : Int) ∧ Hid (∀ (j : Nat) (x : Txt), j < i → l[j]? = some x → x ≠ k) ∧ wr = w) (fun _ iv _ => n - (intOf iv).toNat)
  case atStart => exact ⟨0, by omega, rfl, hide (fun j x h => by omega), rfl⟩
  case round =>
    obtain ⟨i, hi, rfl, HN, rfl⟩ := hrel
    obtain ⟨w, rfl⟩ : ∃ x : World, x = wr := ⟨_, rfl⟩
    by_cases hlt : i < n
    · have e1 : decide ((i : Int) < (n : Int)) = true := by simpa using hlt
      have e1n : decide (i < n) = true := by simpa using hlt
      obtain ⟨x, hx⟩ : ∃ x, l[i]? = some x := ⟨l[i]'(by rw [HL.out]; exact hlt), List.getElem?_eq_getElem _⟩
      obtain ⟨b, off, rfl, hbl, hc⟩ := HR.out.2 (by omega)
      have c0 := hc i (.string (txB x)) (by simp [txCs, hx])
      have hkI : (i : Int) < (n : Int) := by omega
      have hk0 : (0 : Int) ≤ (i : Int) := by omega
      have HX := hide hx
      clear hx hc
      rcases hq : ((txB x).toList == (txB k).toList) with _ | _
      · have HN2 : Hid (∀ (j : Nat) (x : Txt), j < i + 1 → l[j]? = some x → x ≠ k) := hide (fun j y hj hy e => by
          rcases Nat.lt_succ_iff_lt_or_eq.1 hj with h | h
          · exact HN.out j y h hy e
          · rw [h, HX.out] at hy
            injection hy with hy
            rw [hy, (tx_eq y k).2 e] at hq
            cases hq)
        go_wp2_with fail
        go_roundw
        case rel => exact ⟨i + 1, by omega, by go_num, HN2, by trivial⟩
        case measure => simp [intOf]; omega
      · have HA : Hid (addK l k = l) := hide (by
          have := (tx_eq x k).1 hq
          unfold addK
          rw [if_pos (by rw [← this]; exact List.mem_of_getElem? HX.out)])
        go_wp2_with fail
        go_ret
        exact ⟨_, n, c, rfl, by rw [HA.out, HL.out], by rw [HA.out]; exact H.out, Keeps.refl _ _⟩
    · have e1 : decide ((i : Int) < (n : Int)) = false := by simpa using hlt
      have e1n : decide (i < n) = false := by simpa using hlt
      have HA : Hid (addK l k = l ++ [k]) := hide (by
        unfold addK
        rw [if_neg (fun hm => by
          obtain ⟨j, hj⟩ := List.getElem?_of_mem hm
          exact HN.out j k (by have := (List.getElem?_eq_some_iff.1 hj).1; have := HL.out; omega) hj rfl)])
      clear HN hlt
      go_wp2_with (at_builtin; first
        | (refine wpList_app _ elemTx rfl (.tmp 18) (.tmp 19) rfl w.heap.size _ rfl (Own.new0 _ _ 9 1 _ (by simp) (by omega)) _ (m := n) _ rfl (HR.out.keptB ((Keeps.refl (fun _ => False) w).alloc _) (fun _ _ h => h)) (txCs_one l) (by simp [maxLen]; omega) (by omega) (by simp) ?_; intro A5 c5 w5 o5 k5 hA5; rw [Nat.zero_add, List.nil_append] at o5; have O5 := hide o5; have K5 := hide (((Keeps.refl (fun _ => False) w).alloc (.cells #[] 9)).step k5 (fun q hq h => by have := (inB_some _ _ _).1 h; omega)); have hz5 := K5.out.size; clear o5 k5 hA5)
        | (refine wpList_app _ elemTx rfl (.tmp 20) (.tmp 22) rfl w.heap.size _ rfl (O5.out.kept ((Keeps.refl (fun _ => False) w5).alloc _) (fun _ _ h => h)) _ (m := 1) [.string (txB k)] rfl (by exact Blk.rd (xs := [.string (txB k)]) (Blk.new_at _ _ _ _ (by simp)) rfl) (by simp [Value.oneCell']) (by simp only [maxLen]; omega) (by omega) (by simp; omega) ?_; intro A6 c6 w6 o6 k6 hA6; have O6 := hide o6; have K6 := hide ((K5.out.alloc (.cells #[.string (txB k)] 9)).step k6 (fun q hq h => by have := (O5.out.inB h).1; omega)); clear o6 k6 hA6))
      trace "APP"
      go_ret
      exact ⟨A6, n + 1, c6, rfl, by rw [HA.out]; simp [HL.out], by rw [HA.out]; unfold txCs; rw [List.map_append]; exact O6.out.base_le hb, K6.out⟩
/-- what Keys gives -/
def RKeys (base : Nat) (W : List Wt) (w : World) (e : Ending) (w' : World) : Prop :=
  ∃ A n c, e = .returned (.slice A n c) ∧ n = (keysOf W).length ∧ Own w' base 9 1 A n c (txCs (keysOf W)) ∧ Keeps (fun _ => False) w w'
set_option maxRecDepth 100000 in
set_option maxHeartbeats 1000000 in
theorem rkeys_any (w : World) (base sh : Nat) (A : Option Addr) (n c : Nat) (W : List Wt) (h : WL w base A n W) (hn : n ≤ 900) (h17 : w.cell? ⟨sh, 17, none⟩ = some (.slice A n c)) (h19 : w.cell? ⟨sh, 19, none⟩ = some (.slice none 0 0)) (hsl : sh < w.heap.size) (lb : Nat) (hlb : lb ≤ w.heap.size) :
    Calls Try.prog 77 #[.pointer (some ⟨sh, 0, none⟩), .slice none 0 0] w (RKeys lb W w) := by
  have H := hide h
  have HL := hide h.len
  clear h
  go_enter Try.func77, Try.ntmps77
  go_upto_region 2 with fail
  trace "L1"
  go_loopw [1, 6, 8, 16, 22, 23, 24] (fun kv _ _ iv _ _ _ wr => kv = .slice none 0 0 ∧ iv = .int .i64 0 ∧ wr = w) (fun _ _ _ _ _ _ _ _ => 0)
  case atStart => exact ⟨rfl, rfl, rfl⟩
  case round =>
    obtain ⟨rfl, rfl, rfl⟩ := hrel
    obtain ⟨w, rfl⟩ : ∃ x : World, x = wr := ⟨_, rfl⟩
    go_upto_region 11 with fail
    trace "L3"
    go_loopw [1, 10, 39] (fun kv _ iv wr => ∃ (i : Nat) (KA : Option Addr) (m d : Nat), i ≤ n ∧ iv = .int .i64 (i : Int) ∧ kv = .slice KA m d ∧ m ≤ i ∧ Hid (Own wr lb 9 1 KA m d (txCs (keysOf (W.take i)))) ∧ Hid (Keeps (fun _ => False) w wr)) (fun _ _ iv _ => n - (intOf iv).toNat)
    case atStart => exact ⟨0, none, 0, 0, by omega, rfl, rfl, by omega, hide (Own.nil _ _ _ _), hide (Keeps.refl _ _)⟩
    case round =>
      obtain ⟨i, KA, m, d, hi, rfl, rfl, hm, HO, HK⟩ := hrel
      by_cases hlt : i < n
      · have e1 : decide ((i : Int) < (n : Int)) = true := by simpa using hlt
        have e1n : decide (i < n) = true := by simpa using hlt
        obtain ⟨x, hx⟩ : ∃ x, W[i]? = some x := ⟨W[i]'(by rw [HL.out]; exact hlt), List.getElem?_eq_getElem _⟩
        have hsn : keysOf (W.take (i + 1)) = addK (keysOf (W.take i)) x.text := by
          rw [List.take_add_one, hx, Option.toList_some, keysOf_snoc]
        obtain ⟨b, off, rfl, hb, c0, c1, c2, c3⟩ := (H.out.quiet HK.out).at hx
        have hkI : (i : Int) < (n : Int) := by omega
        have hk0 : (0 : Int) ≤ (i : Int) := by omega
        have HSn := hide hsn
        obtain ⟨w2, hw2⟩ : ∃ x', x' = wr.alloc (.cells #[.int .i64 x.win, .string ⟨x.text.toArray⟩, .int .i64 x.time, .int .u64 x.wgt] 102) := ⟨_, rfl⟩
        have k2 : Keeps (fun _ => False) wr w2 := by rw [hw2]; exact (Keeps.refl _ _).alloc _
        have O2 := hide (HO.out.kept k2 (fun _ _ h => h))
        have K2 := hide (HK.out.trans k2)
        have hb2 : lb ≤ w2.heap.size := by have := K2.out.size; omega
        have HW2 := hide hw2
        clear hx hsn k2 hw2
        go_wp2_with fail
        rw [← HW2.out]
        trace "WITH"
        refine (with_any w2 lb KA m d (keysOf (W.take i)) x.text O2.out (by omega) hb2).mono ?_
        rintro e w3 ⟨KB, mb, db, rfl, hmb, o3, k3⟩
        have hmb2 : mb ≤ i + 1 := by rw [hmb, ← HSn.out]; exact Nat.le_trans (keysOf_len _ []) (by simp; omega)
        have O3 : Hid (Own w3 lb 9 1 KB mb db (txCs (keysOf (W.take (i + 1))))) := hide (by rw [HSn.out]; exact o3)
        have K3 := hide (K2.out.trans k3)
        clear o3 k3 hmb
        go_wp2_with fail
        go_roundw
        case rel => exact ⟨i + 1, KB, mb, db, by omega, by go_num, rfl, hmb2, O3, K3⟩
        case measure => simp [intOf]; omega
      · have e1 : decide ((i : Int) < (n : Int)) = false := by simpa using hlt
        have e1n : decide (i < n) = false := by simpa using hlt
        have O2 : Hid (Own wr lb 9 1 KA m d (txCs (keysOf W))) := hide (by have := HO.out; rw [List.take_of_length_le (by have := HL.out; omega)] at this; exact this)
        have hm2 : m = (keysOf W).length := by have := O2.out.len; simpa [txCs] using this.symm
        clear hlt
        go_wp2_with fail
        go_ret
        exact ⟨KA, m, d, rfl, hm2, O2.out, HK.out⟩
end Go.Proofs.Ytidobhflijdccaa

set_option linter.unusedVariables false
set_option linter.unusedSimpArgs false
namespace Go.Proofs.Ytidobhflijdccaa
open Go.RowKit Cfp
def sh0 : List (Int × Int) := [(8, 0), (24, 0), (256, 0)]
def cls3 (k : Txt) : Nat := fitS sh27 k.length
theorem cls3_cases (k : Txt) (h : k.length ≤ 256) : cls3 k = 0 ∨ cls3 k = 1 ∨ cls3 k = 2 := by
  unfold cls3
  rw [fit27]
  split
  · exact .inl rfl
  · split
    · exact .inr (.inl rfl)
    · rw [if_pos (by omega)]
      exact .inr (.inr rfl)
theorem fit0 (k : Txt) (h1 : 1 ≤ k.length) (h : k.length ≤ 256) : fitI sh0 k.length = (cls3 k : Int) ∧ fitE sh0 k.length = 0 := by
  have e : fitP sh0 k.length = cls3 k := by
    unfold fitP cls3 fitS sh0 sh27
    simp only [List.findIdx_cons, List.findIdx_nil]
  have hl : cls3 k < 3 := by rcases cls3_cases k h with e | e | e <;> omega
  unfold fitI fitE
  rw [e, if_pos ⟨by omega, hl⟩, if_pos ⟨by omega, hl⟩]
  exact ⟨rfl, rfl⟩
theorem fit24 : fitI sh0 24 = 1 ∧ fitE sh0 24 = 0 := by decide
def kCnt (i : Nat) (ks : List Txt) : Int := (ks.countP (fun k => decide (cls3 k = i)) : Nat)
theorem kCnt_snoc (i : Nat) (ks : List Txt) (k : Txt) : kCnt i (ks ++ [k]) = kCnt i ks + if cls3 k = i then 1 else 0 := by
  unfold kCnt
  rw [List.countP_append, List.countP_singleton]
  by_cases e : cls3 k = i
  · simp [e]
  · simp [e]
theorem kCnt_bd (i : Nat) (ks : List Txt) : 0 ≤ kCnt i ks ∧ kCnt i ks ≤ ks.length := by
  unfold kCnt
  have := List.countP_le_length (p := fun k => decide (cls3 k = i)) (l := ks)
  omega
/-- the live slots: events lie in the second class -/
def lvK (n : Int) (ks : List Txt) : List Int := [kCnt 0 ks, n + kCnt 1 ks, kCnt 2 ks]
theorem lvK_snoc (n : Int) (ks : List Txt) (k : Txt) (h : k.length ≤ 256) : ∃ v, (lvK n ks)[cls3 k]? = some v ∧ 0 ≤ kCnt (cls3 k) ks ∧ (v = kCnt (cls3 k) ks ∨ v = n + kCnt (cls3 k) ks) ∧ lvK n (ks ++ [k]) = (lvK n ks).set (cls3 k) (v + 1) := by
  unfold lvK
  rcases cls3_cases k h with e | e | e
  · refine ⟨kCnt 0 ks, by rw [e]; rfl, (kCnt_bd _ _).1, .inl (by rw [e]), ?_⟩
    rw [kCnt_snoc, kCnt_snoc, kCnt_snoc, e]
    simp
  · refine ⟨n + kCnt 1 ks, by rw [e]; rfl, (kCnt_bd _ _).1, .inr (by rw [e]), ?_⟩
    rw [kCnt_snoc, kCnt_snoc, kCnt_snoc, e]
    simp
    omega
  · refine ⟨kCnt 2 ks, by rw [e]; rfl, (kCnt_bd _ _).1, .inl (by rw [e]), ?_⟩
    rw [kCnt_snoc, kCnt_snoc, kCnt_snoc, e]
    simp
/-- the bytes of the first classes -/
def byK (lv : List Int) : Nat → Int
  | 0 => 0
  | i + 1 => byK lv i + lv.getD i 0 * (sh27.getD i (0, 0)).1
theorem set_u3 {w : World} {g : Nat} {a b c : Value} (h : Blk w g 46 #[a, b, c]) (x y z : Value) : Blk (((w.setCell ⟨g, 0, none⟩ x).setCell ⟨g, 1, none⟩ y).setCell ⟨g, 2, none⟩ z) g 46 #[x, y, z] ∧ Keeps (· = g) w (((w.setCell ⟨g, 0, none⟩ x).setCell ⟨g, 1, none⟩ y).setCell ⟨g, 2, none⟩ z) :=
  ⟨((h.set 0 x).set 1 y).set 2 z, ((keepsOne w g 0 x).setCell (p := ⟨g, 1, none⟩) (.inl rfl) y).setCell (p := ⟨g, 2, none⟩) (.inl rfl) z⟩
theorem own_blkQ {w : World} {g n : Nat} {e : TypeId} {xs : List Value} (h : Blk w g e xs.toArray) (hl : xs.length = n) (hm : n ≤ maxLen) (B : Nat) (hB : B ≤ g) : Own w B e 1 (some ⟨g, 0, none⟩) n n xs :=
  ⟨by rw [hl, Nat.mul_one], .inr ⟨g, n, xs.toArray, rfl, hB, h, Nat.le_refl _, hm, by simp [hl], by rw [List.toList_toArray, List.take_of_length_le (by rw [hl, Nat.mul_one]; exact Nat.le_refl _)]⟩⟩
/-- what Usage gives -/
def RUse (W : List Wt) (w : World) (e : Ending) (w' : World) : Prop :=
  ∃ D m, e = .returned (.agg #[.slice D 3 m, .int .i64 (byK (lvK W.length (keysOf W)) 3), .int .i64 0]) ∧ Own w' w.heap.size 3 1 D 3 m ((lvK W.length (keysOf W)).map (.int .i64)) ∧ Keeps (fun _ => False) w w'
set_option maxRecDepth 100000 in
set_option maxHeartbeats 4000000 in
theorem rusageQ (w : World) (base sh sb : Nat) (A : Option Addr) (n c k ks B : Nat) (C : Option Addr) (W : List Wt) (h : WL w base A n W) (hn : n ≤ 900) (ht : ∀ x ∈ W, 1 ≤ x.text.length ∧ x.text.length ≤ 255) (h17 : w.cell? ⟨sh, 17, none⟩ = some (.slice A n c)) (h19 : w.cell? ⟨sh, 19, none⟩ = some (.slice none 0 0)) (hsl : sh < w.heap.size)
    (hC : Rd w B C 2 3 (prs sh0)) (hB : B ≤ w.heap.size) (hs : w.cell? ⟨sb, 0, none⟩ = some (.pointer (some ⟨sh, 0, none⟩))) (hsbl : sb < w.heap.size) :
    Calls Try.prog 66 #[.slice C 3 k, .slice (some ⟨sb, 0, none⟩) 1 ks] w (RUse W w) := by
  have hmk : ∀ w, (Instr.makeSlice 23 (.int .i64 3) (.int .i64 3)).run Try.prog w = .ok (.slice (some ⟨w.heap.size, 0, none⟩) 3 3) (w.alloc (.cells #[.int .i64 0, .int .i64 0, .int .i64 0] 3)) := fun _ => by kernel_rfl
  have hkl : (keysOf W).length ≤ n := by have := keysOf_len W []; have := h.len; simp at *; unfold keysOf; omega
  have hkt : ∀ q ∈ keysOf W, 1 ≤ q.length ∧ q.length ≤ 255 := fun q hq => by
    unfold keysOf at hq
    rw [mem_keys] at hq
    rcases hq with hq | ⟨x, hx, rfl⟩
    · simp at hq
    · exact ht x hx
  obtain ⟨g4, hg4⟩ : ∃ g, g = w.heap.size := ⟨_, rfl⟩
  obtain ⟨gl, hgl⟩ : ∃ g, g = w.heap.size + 1 := ⟨_, rfl⟩
  obtain ⟨g5, hg5⟩ : ∃ g, g = w.heap.size + 1 + 1 := ⟨_, rfl⟩
  obtain ⟨w1, hw1⟩ : ∃ x, x = ((w.alloc (.cells #[.slice none 0 0, .int .i64 0, .int .i64 0] 46)).alloc (.cells #[.int .i64 0, .int .i64 0, .int .i64 0] 3)).alloc (.cells #[.slice (some ⟨w.heap.size + 1, 0, none⟩) 3 3, .int .i64 0, .int .i64 0] 46) := ⟨_, rfl⟩
  have k1 : Keeps (fun _ => False) w w1 := by rw [hw1]; exact (((Keeps.refl _ _).alloc _).alloc _).alloc _
  have B4 : Hid (Blk w1 g4 46 #[.slice none 0 0, .int .i64 0, .int .i64 0]) := hide (by rw [hw1, hg4]; exact ((Blk.new _ _ _).alloc _).alloc _)
  have BL : Hid (Blk w1 gl 3 #[.int .i64 0, .int .i64 0, .int .i64 0]) := hide (by rw [hw1, hgl]; exact (Blk.new_at _ _ _ _ (by simp)).alloc _)
  have B5 : Hid (Blk w1 g5 46 #[.slice (some ⟨gl, 0, none⟩) 3 3, .int .i64 0, .int .i64 0]) := hide (by rw [hw1, hg5, hgl]; exact Blk.new_at _ _ _ _ (by simp))
  have HG4 := hide hg4
  have HGL := hide hgl
  have HG5 := hide hg5
  have HW1 := hide hw1
  have K1 := hide k1
  have H := hide h
  have HC := hide hC
  have hlb : w.heap.size ≤ w1.heap.size := k1.size
  have hs1 := k1.cell_some hs (fun h => h)
  have h171 := k1.cell_some h17 (fun h => h)
  have h191 := k1.cell_some h19 (fun h => h)
  have hsl1 : sh < w1.heap.size := by omega
  have hsbl1 : sb < w1.heap.size := by omega
  have hne : g4 < gl ∧ gl < g5 ∧ w.heap.size ≤ g4 := by omega
  have HKT := hide hkt
  clear h hC hw1 k1 hg4 hgl hg5 hs h17 h19 hsl hsbl ht hkt
  go_enter Try.func66, Try.ntmps66
  go_upto_region 3 with fail
  rw [← HGL.out] at HW1
  rw [← HG5.out, ← HGL.out, ← HG4.out, ← HW1.out]
  trace "R3"
  go_wp2_with fail
  refine (rfit_any sh0 C 3 k w1.heap.size 24 w1 ((HC.out.more hB).keptB K1.out (fun _ _ h => h)) (Nat.le_refl _) (by omega)).mono ?_
  rintro e w2 ⟨rfl, k2⟩
  rw [fit24.1, fit24.2]
  have K2 := hide (K1.out.trans k2)
  have B42 := hide (B4.out.kept k2 (fun h => h))
  have B52 := hide (B5.out.kept k2 (fun h => h))
  have BL2 := hide (BL.out.kept k2 (fun h => h))
  have hlb2 : w.heap.size ≤ w2.heap.size := K2.out.size
  have hs2 := k2.cell_some hs1 (fun h => h)
  have h172 := k2.cell_some h171 (fun h => h)
  have h192 := k2.cell_some h191 (fun h => h)
  have hsl2 : sh < w2.heap.size := by have := k2.size; omega
  have hsbl2 : sb < w2.heap.size := by have := k2.size; omega
  clear k2 K1 B4 B5 BL hs1 h171 h191 hsl1 hsbl1 HG4 HGL HG5 HW1 hmk
  go_upto_region 5 with fail
  trace "L1"
  go_loopw [6, 10, 12, 13, 14, 32] (fun kv _ _ _ _ iv wr => (iv = .int .i64 0 ∧ kv = .slice none 0 0 ∧ wr = w2) ∨ (iv = .int .i64 1 ∧ ∃ (KA : Option Addr) (m d : Nat), kv = .slice KA m d ∧ m = (keysOf W).length ∧ Hid (Own wr w.heap.size 9 1 KA m d (txCs (keysOf W)) ∧ (∀ q, inB KA q → g5 < q)) ∧ Hid (Blk wr gl 3 ((lvK W.length []).map (Value.int .i64)).toArray) ∧ Hid (Blk wr g5 46 #[.slice (some ⟨gl, 0, none⟩) 3 3, .int .i64 0, .int .i64 0]) ∧ Hid (Blk wr g4 46 #[.slice none 0 0, .int .i64 0, .int .i64 0]) ∧ Hid (Keeps (fun _ => False) w wr))) (fun _ _ _ _ _ iv _ => 1 - (intOf iv).toNat)
  case atStart => exact .inl ⟨rfl, rfl, rfl⟩
  case round =>
    rcases hrel with ⟨rfl, rfl, rfl⟩ | ⟨rfl, KA, m, d, rfl, hm, HO, HL, HU, HR, HK⟩
    · obtain ⟨w2, rfl⟩ : ∃ x : World, x = wr := ⟨_, rfl⟩
      go_upto_region 8 with fail
      trace "L2"
      go_loopw [12, 13, 14, 41] (fun _ _ _ iv wr => iv = .int .i64 0 ∧ wr = w2) (fun _ _ _ _ _ => 0)
      case atStart => exact ⟨rfl, rfl⟩
      case round =>
        obtain ⟨rfl, rfl⟩ := hrel
        obtain ⟨w2, rfl⟩ : ∃ x : World, x = wr := ⟨_, rfl⟩
        go_upto_region 16 with fail
        trace "R16"
        have y0 : w2.cell? ⟨g5, 0, none⟩ = some (.slice (some ⟨gl, 0, none⟩) 3 3) := B52.out.cell 0
        have y1 : w2.cell? ⟨gl, 1, none⟩ = some (.int .i64 0) := BL2.out.cell 1
        have fl := BL2.out.frozen 1
        have hll := BL2.out.lt
        have h5l := B52.out.lt
        have wn : IntKind.i64.wrap (n : Int) = (n : Int) := IntWalk.i64_in _ (by omega)
        have HSg : Hid (∀ V, Keeps (fun _ => False) w2 V → (V.cell? ⟨g5, 0, none⟩ = some (.slice (some ⟨gl, 0, none⟩) 3 3) ∧ V.cell? ⟨gl, 1, none⟩ = some (.int .i64 0) ∧ V.cell? ⟨sh, 17, none⟩ = some (.slice A n c))) := hide (fun V kV => ⟨kV.cell_some y0 (fun h => h), kV.cell_some y1 (fun h => h), kV.cell_some h172 (fun h => h)⟩)
        refine wp_region_N 12 (S := fun V => V.cell? ⟨g5, 0, none⟩ = some (.slice (some ⟨gl, 0, none⟩) 3 3) ∧ V.cell? ⟨gl, 1, none⟩ = some (.int .i64 0) ∧ V.cell? ⟨sh, 17, none⟩ = some (.slice A n c)) (by kernel_rfl) (HSg.out _ ((Keeps.refl _ _).drew)) (fun hHeld => ?_)
        refine wpAnyN_take (i := 0) (v := ?_) rfl (by kernel_rfl) (by kernel_rfl) (by kernel_rfl) (by kernel_rfl) (by kernel_rfl) (by kernel_rfl) (fun _ _ _ h => h) (Or.inl ⟨by first | kernel_rfl | rfl, ?_⟩) (by assumption) ?_; rotate_left; focus (intro w hSw; (try dsimp only at hSw); go_simp; try (with_reducible rfl)); (try simp only [Act.put, List.getElem_toArray, List.getElem_cons_succ, List.getElem_cons_zero, List.setIfInBounds_toArray, List.set_cons_zero, List.set_cons_succ])
        refine wpAnyN_take (i := 1) (v := ?_) rfl (by kernel_rfl) (by kernel_rfl) (by kernel_rfl) (by kernel_rfl) (by kernel_rfl) (by kernel_rfl) (fun _ _ _ h => h) (Or.inl ⟨by first | kernel_rfl | rfl, ?_⟩) (by assumption) ?_; rotate_left; focus (intro w hSw; (try dsimp only at hSw); go_simp; try (with_reducible rfl)); (try simp only [Act.put, List.getElem_toArray, List.getElem_cons_succ, List.getElem_cons_zero, List.setIfInBounds_toArray, List.set_cons_zero, List.set_cons_succ])
        refine wpAnyN_take (i := 2) (v := ?_) rfl (by kernel_rfl) (by kernel_rfl) (by kernel_rfl) (by kernel_rfl) (by kernel_rfl) (by kernel_rfl) (fun _ _ _ h => h) (Or.inl ⟨by first | kernel_rfl | rfl, ?_⟩) (by assumption) ?_; rotate_left; focus (intro w hSw; (try dsimp only at hSw); go_simp; try (with_reducible rfl)); (try simp only [Act.put, List.getElem_toArray, List.getElem_cons_succ, List.getElem_cons_zero, List.setIfInBounds_toArray, List.set_cons_zero, List.set_cons_succ])
        refine wpAnyN_take (i := 3) (v := ?_) rfl (by kernel_rfl) (by kernel_rfl) (by kernel_rfl) (by kernel_rfl) (by kernel_rfl) (by kernel_rfl) (fun _ _ _ h => h) (Or.inl ⟨by first | kernel_rfl | rfl, ?_⟩) (by assumption) ?_; rotate_left; focus (intro w hSw; (try dsimp only at hSw); go_simp; try (with_reducible rfl)); (try simp only [Act.put, List.getElem_toArray, List.getElem_cons_succ, List.getElem_cons_zero, List.setIfInBounds_toArray, List.set_cons_zero, List.set_cons_succ])
        refine wpAnyN_take (i := 4) (v := ?_) rfl (by kernel_rfl) (by kernel_rfl) (by kernel_rfl) (by kernel_rfl) (by kernel_rfl) (by kernel_rfl) (fun _ _ _ h => h) (Or.inl ⟨by first | kernel_rfl | rfl, ?_⟩) (by assumption) ?_; rotate_left; focus (intro w hSw; (try dsimp only at hSw); go_simp; try (with_reducible rfl)); (try simp only [Act.put, List.getElem_toArray, List.getElem_cons_succ, List.getElem_cons_zero, List.setIfInBounds_toArray, List.set_cons_zero, List.set_cons_succ])
        refine wpAnyN_take (i := 5) (v := ?_) rfl (by kernel_rfl) (by kernel_rfl) (by kernel_rfl) (by kernel_rfl) (by kernel_rfl) (by kernel_rfl) (fun _ _ _ h => h) (Or.inl ⟨by first | kernel_rfl | rfl, ?_⟩) (by assumption) ?_; rotate_left; focus (intro w hSw; (try dsimp only at hSw); go_simp; try (with_reducible rfl)); (try simp only [Act.put, List.getElem_toArray, List.getElem_cons_succ, List.getElem_cons_zero, List.setIfInBounds_toArray, List.set_cons_zero, List.set_cons_succ])
        refine wpAnyN_take (i := 6) (v := ?_) rfl (by kernel_rfl) (by kernel_rfl) (by kernel_rfl) (by kernel_rfl) (by kernel_rfl) (by kernel_rfl) (fun _ _ _ h => h) (Or.inl ⟨by first | kernel_rfl | rfl, ?_⟩) (by assumption) ?_; rotate_left; focus (intro w hSw; (try dsimp only at hSw); go_simp; try (with_reducible rfl)); (try simp only [Act.put, List.getElem_toArray, List.getElem_cons_succ, List.getElem_cons_zero, List.setIfInBounds_toArray, List.set_cons_zero, List.set_cons_succ])
        refine wpAnyN_take (i := 7) (v := ?_) rfl (by kernel_rfl) (by kernel_rfl) (by kernel_rfl) (by kernel_rfl) (by kernel_rfl) (by kernel_rfl) (fun _ _ _ h => h) (Or.inl ⟨by first | kernel_rfl | rfl, ?_⟩) (by assumption) ?_; rotate_left; focus (intro w hSw; (try dsimp only at hSw); go_simp; try (with_reducible rfl)); (try simp only [Act.put, List.getElem_toArray, List.getElem_cons_succ, List.getElem_cons_zero, List.setIfInBounds_toArray, List.set_cons_zero, List.set_cons_succ])
        refine wpAnyN_take (i := 8) (v := ?_) rfl (by kernel_rfl) (by kernel_rfl) (by kernel_rfl) (by kernel_rfl) (by kernel_rfl) (by kernel_rfl) (fun _ _ _ h => h) (Or.inl ⟨by first | kernel_rfl | rfl, ?_⟩) (by assumption) ?_; rotate_left; focus (intro w hSw; (try dsimp only at hSw); go_simp; try (with_reducible rfl)); (try simp only [Act.put, List.getElem_toArray, List.getElem_cons_succ, List.getElem_cons_zero, List.setIfInBounds_toArray, List.set_cons_zero, List.set_cons_succ])
        refine wpAnyN_take (i := 9) (v := ?_) rfl (by kernel_rfl) (by kernel_rfl) (by kernel_rfl) (by kernel_rfl) (by kernel_rfl) (by kernel_rfl) (fun _ _ _ h => h) (Or.inl ⟨by first | kernel_rfl | rfl, ?_⟩) (by assumption) ?_; rotate_left; focus (intro w hSw; (try dsimp only at hSw); go_simp; try (with_reducible rfl)); (try simp only [Act.put, List.getElem_toArray, List.getElem_cons_succ, List.getElem_cons_zero, List.setIfInBounds_toArray, List.set_cons_zero, List.set_cons_succ])
        refine wpAnyN_take (i := 10) (v := ?_) rfl (by kernel_rfl) (by kernel_rfl) (by kernel_rfl) (by kernel_rfl) (by kernel_rfl) (by kernel_rfl) (fun _ _ _ h => h) (Or.inl ⟨by first | kernel_rfl | rfl, ?_⟩) (by assumption) ?_; rotate_left; focus (intro w hSw; (try dsimp only at hSw); go_simp; try (with_reducible rfl)); (try simp only [Act.put, List.getElem_toArray, List.getElem_cons_succ, List.getElem_cons_zero, List.setIfInBounds_toArray, List.set_cons_zero, List.set_cons_succ])
        refine wpAnyN_take (i := 11) (v := ?_) rfl (by kernel_rfl) (by kernel_rfl) (by kernel_rfl) (by kernel_rfl) (by kernel_rfl) (by kernel_rfl) (fun _ _ _ h => h) (Or.inl ⟨by first | kernel_rfl | rfl, ?_⟩) (by assumption) ?_; rotate_left; focus (intro w hSw; (try dsimp only at hSw); go_simp; try (with_reducible rfl)); (try simp only [Act.put, List.getElem_toArray, List.getElem_cons_succ, List.getElem_cons_zero, List.setIfInBounds_toArray, List.set_cons_zero, List.set_cons_succ])
        refine wpAnyN_last (by kernel_rfl) rfl (fun K hK => ?_)
        go_simp
        refine hK.out _ _ ?_
        clear hK K hHeld
        (try simp only [Act.put, List.getElem_toArray, List.getElem_cons_succ, List.getElem_cons_zero, List.setIfInBounds_toArray, List.set_cons_zero, List.set_cons_succ])
        refine wpAnyN_done (by kernel_rfl) ?_ _
        (try simp only [Act.put, List.getElem_toArray, List.getElem_cons_succ, List.getElem_cons_zero, List.setIfInBounds_toArray, List.set_cons_zero, List.set_cons_succ])
        trace "R16b"
        obtain ⟨w3, hw3⟩ : ∃ x, x = (w2.setCell ⟨gl, 1, none⟩ (.int .i64 (n : Int))).drew := ⟨_, rfl⟩
        have k3 : Keeps (· = gl) w2 w3 := by rw [hw3]; exact (keepsOne w2 gl 1 _).drew
        have bl3 := (BL2.out.set 1 (.int .i64 (n : Int))).drew
        rw [← hw3] at bl3
        have hlen := H.out.len
        have BL3 : Hid (Blk w3 gl 3 ((lvK W.length []).map (Value.int .i64)).toArray) := hide (by rw [hlen]; exact bl3)
        have B43 := hide (B42.out.kept k3 (fun e => by omega))
        have B53 := hide (B52.out.kept k3 (fun e => by omega))
        have K3 := hide (K2.out.step k3 (fun q hq e => by omega))
        have hgs : sh ≠ gl := by have := hne; have hx := h192; intro e; subst e; have := BL2.out.cell 19; rw [hx] at this; simp at this
        have h173 := k3.cell_some h172 (fun e => hgs e)
        have h193 := k3.cell_some h192 (fun e => hgs e)
        have hsl3 : sh < w3.heap.size := by have := k3.size; omega
        have hz3 : g5 < w3.heap.size := B53.out.lt
        rw [← hw3]
        clear hw3 k3 bl3 y0 y1 fl hll h5l wn HSg B42 B52 BL2 K2 hs2 h172 h192 hsl2 hsbl2 hlb2
        go_wp2_with fail
        trace "KEYS"
        refine (rkeys_any w3 base sh A n c W (H.out.quiet K3.out) hn h173 h193 hsl3 w3.heap.size (Nat.le_refl _)).mono ?_
        rintro e w4 ⟨KA, m, d, rfl, hm, o4, k4⟩
        have O4 : Hid (Own w4 w.heap.size 9 1 KA m d (txCs (keysOf W)) ∧ (∀ q, inB KA q → g5 < q)) := hide ⟨o4.base_le (by have := K3.out.size; omega), fun q hq => by have := (o4.inB hq).1; omega⟩
        have BL4 := hide (BL3.out.kept k4 (fun h => h))
        have B44 := hide (B43.out.kept k4 (fun h => h))
        have B54 := hide (B53.out.kept k4 (fun h => h))
        have K4 := hide (K3.out.trans k4)
        have HMm := hide hm
        clear o4 k4 hm
        go_wp2_with fail
        go_roundw
        case rel => exact .inr ⟨rfl, KA, m, d, rfl, HMm.out, O4, BL4, B54, B44, K4⟩
        case measure => simp [intOf]
    · trace "L1x"
      have hlen : Hid (W.length = n) := hide H.out.len
      rw [hlen.out] at HL
      clear B42 B52 BL2 K2 hs2 h172 h192 hsl2 hsbl2 hlb2
      obtain ⟨wo, rfl⟩ : ∃ x : World, x = wr := ⟨_, rfl⟩
      have hmn : m ≤ 900 := by omega
      have HM := hide hm
      clear hm
      go_upto_region 20 with fail
      trace "L4"
      go_loopw [16, 17, 18, 82] (fun _ _ _ iv wr => ∃ i : Nat, i ≤ m ∧ iv = .int .i64 (i : Int) ∧ Hid (Own wr w.heap.size 9 1 KA m d (txCs (keysOf W))) ∧ Hid (Blk wr gl 3 ((lvK n ((keysOf W).take i)).map (Value.int .i64)).toArray) ∧ Hid (Blk wr g5 46 #[.slice (some ⟨gl, 0, none⟩) 3 3, .int .i64 0, .int .i64 0]) ∧ Hid (Blk wr g4 46 #[.slice none 0 0, .int .i64 0, .int .i64 0]) ∧ Hid (Keeps (fun _ => False) w wr)) (fun _ _ _ iv _ => m - (intOf iv).toNat)
      case atStart => exact ⟨0, by omega, rfl, hide HO.out.1, HL, HU, HR, HK⟩
      case round =>
        obtain ⟨i, hi, rfl, HO2, HL2, HU2, HR2, HK2⟩ := hrel
        obtain ⟨wp, rfl⟩ : ∃ x : World, x = wr := ⟨_, rfl⟩
        clear HL HU HR HK
        by_cases hlt : i < m
        · have e1 : decide ((i : Int) < (m : Int)) = true := by simpa using hlt
          have e1n : decide (i < m) = true := by simpa using hlt
          obtain ⟨y, hy⟩ : ∃ y, (keysOf W)[i]? = some y := ⟨(keysOf W)[i]'(by rw [← HM.out]; exact hlt), List.getElem?_eq_getElem _⟩
          obtain ⟨hy1, hy2⟩ := HKT.out y (List.mem_of_getElem? hy)
          obtain ⟨gk, rfl, _, hgk⟩ := HO2.out.some_ (by omega)
          have q1 := HO2.out.cell i (by omega)
          rw [show (txCs (keysOf W))[i]? = some (.string (txB y)) by simp [txCs, hy]] at q1
          have hiI : (i : Int) < (m : Int) := by omega
          have hi00 : (0 : Int) ≤ (i : Int) := by omega
          have hsz : (txB y).size = y.length := by unfold txB; show y.toArray.size = _; simp
          have hF := fit0 y hy1 (by omega)
          have htk : (keysOf W).take (i + 1) = (keysOf W).take i ++ [y] := by rw [List.take_add_one, hy]; rfl
          obtain ⟨v, hv, hv0, hvc, hset⟩ := lvK_snoc n ((keysOf W).take i) y (by omega)
          rw [← htk] at hset
          have hkb := (kCnt_bd (cls3 y) ((keysOf W).take i)).2
          have hvb : 0 ≤ v ∧ v ≤ 2000 := by rw [List.length_take] at hkb; omega
          have hf3 : cls3 y < 3 := by rcases cls3_cases y (by omega) with e | e | e <;> omega
          have HV := hide hv
          have HSe := hide hset
          have HFt := hide hF
          generalize cls3 y = f at *
          clear hy hv hset htk hvc hkb hv0 hF
          go_wp2_with fail
          trace "FIT"
          refine (rfit_any sh0 C 3 k wp.heap.size y.length wp ((HC.out.more hB).keptB HK2.out (fun _ _ h => h)) (Nat.le_refl _) (by omega)).mono ?_
          rintro e w5 ⟨rfl, k5⟩
          rw [HFt.out.1, HFt.out.2]
          have HO5 := hide (HO2.out.kept k5 (fun _ _ h => h))
          have HL5 := hide (HL2.out.kept k5 (fun h => h))
          have HU5 := hide (HU2.out.kept k5 (fun h => h))
          have HR5 := hide (HR2.out.kept k5 (fun h => h))
          have HK5 := hide (HK2.out.trans k5)
          clear k5 q1 hgk HO2 HL2 HU2 HR2 HK2
          have y0 : w5.cell? ⟨g5, 0, none⟩ = some (.slice (some ⟨gl, 0, none⟩) 3 3) := HU5.out.cell 0
          have y1 : w5.cell? ⟨gl, f, none⟩ = some (.int .i64 v) := (HL5.out.cell f).trans (by rw [List.getElem?_toArray, List.getElem?_map, HV.out]; rfl)
          have fl := HL5.out.frozen f
          have hll := HL5.out.lt
          have h5l := HU5.out.lt
          have wv : IntKind.i64.wrap (v + 1) = v + 1 := IntWalk.i64_in _ (by omega)
          have hfI : (f : Int) < 3 := by omega
          have hf0 : (0 : Int) ≤ (f : Int) := by omega
          have k6 := keepsOne w5 gl f (.int .i64 (v + 1))
          have l6 := HL5.out.set f (.int .i64 (v + 1))
          have el6 : (((lvK n ((keysOf W).take i)).map (Value.int .i64)).toArray).setIfInBounds f (.int .i64 (v + 1)) = ((lvK n ((keysOf W).take (i + 1))).map (Value.int .i64)).toArray := by
            rw [HSe.out, List.map_set]
            simp
          rw [el6] at l6
          obtain ⟨w6, hw6⟩ : ∃ x, x = w5.setCell ⟨gl, f, none⟩ (.int .i64 (v + 1)) := ⟨_, rfl⟩
          rw [← hw6] at k6 l6
          have HL6 := hide l6
          have HO6 := hide (HO5.out.kept k6 (fun q hq e => by subst e; exact HO5.out.ne_blk HL5.out (by decide) hq rfl))
          have HU6 := hide (HU5.out.kept k6 (fun e => by omega))
          have HR6 := hide (HR5.out.kept k6 (fun e => by omega))
          have HK6 := hide (HK5.out.step k6 (fun q hq e => by omega))
          have HW6 := hide hw6
          clear k6 l6 el6 hw6
          go_upto_region 24 with fail
          rw [← HW6.out]
          clear y0 y1 fl hll h5l wv HW6 HO5 HL5 HU5 HR5 HK5
          go_wp2_with fail
          go_roundw
          case rel => exact ⟨i + 1, by omega, by go_num, HO6, HL6, HU6, HR6, HK6⟩
          case measure => simp [intOf]; omega
        · have e1 : decide ((i : Int) < (m : Int)) = false := by simpa using hlt
          have e1n : decide (i < m) = false := by simpa using hlt
          have HLf : Hid (Blk wp gl 3 ((lvK n (keysOf W)).map (Value.int .i64)).toArray) := hide (by have := HL2.out; rw [List.take_of_length_le (by rw [← HM.out]; omega)] at this; exact this)
          obtain ⟨lv, hlv⟩ : ∃ lv, lv = lvK n (keysOf W) := ⟨_, rfl⟩
          have hlvb : ∀ j, 0 ≤ lv.getD j 0 ∧ lv.getD j 0 ≤ 2000 := fun j => by
            have b0 := kCnt_bd 0 (keysOf W)
            have b1 := kCnt_bd 1 (keysOf W)
            have b2 := kCnt_bd 2 (keysOf W)
            rw [hlv]
            unfold lvK
            rcases j with _ | _ | _ | j <;> simp [List.getD] <;> omega
          have hll3 : lv.length = 3 := by rw [hlv]; rfl
          rw [← hlv] at HLf
          have HLV := hide hlv
          have HHl := hide hll3
          clear hlt HL2 HO2 hlv hll3
          have y0 : wp.cell? ⟨g5, 0, none⟩ = some (.slice (some ⟨gl, 0, none⟩) 3 3) := HU2.out.cell 0
          have h5l := HU2.out.lt
          go_upto_region 26 with fail
          trace "L5"
          clear y0 h5l
          go_loopw [19, 20, 104] (fun _ _ iv wr => ∃ i : Nat, i ≤ 3 ∧ iv = .int .i64 (i : Int) ∧ Hid (Blk wr gl 3 (lv.map (Value.int .i64)).toArray) ∧ Hid (Blk wr g5 46 #[.slice (some ⟨gl, 0, none⟩) 3 3, .int .i64 (byK lv i), .int .i64 0]) ∧ Hid (Blk wr g4 46 #[.slice none 0 0, .int .i64 0, .int .i64 0]) ∧ Hid (Keeps (fun _ => False) w wr) ∧ (0 ≤ byK lv i ∧ byK lv i ≤ i * 512000)) (fun _ _ iv _ => 3 - (intOf iv).toNat)
          case atStart => exact ⟨0, by omega, rfl, HLf, HU2, HR2, HK2, by simp [byK]⟩
          case round =>
            obtain ⟨i, hi, rfl, HL7, HU7, HR7, HK7, hby⟩ := hrel
            obtain ⟨wq, rfl⟩ : ∃ x : World, x = wr := ⟨_, rfl⟩
            clear HLf HU2 HR2 HK2
            by_cases hlt : i < 3
            · have e1 : decide ((i : Int) < 3) = true := by simp; omega
              obtain ⟨v, hv⟩ : ∃ v, lv[i]? = some v := ⟨lv[i]'(by rw [HHl.out]; exact hlt), List.getElem?_eq_getElem _⟩
              have hvd : lv.getD i 0 = v := by simp [List.getD, hv]
              have hvb := hlvb i
              rw [hvd] at hvb
              obtain ⟨z, hz, hz1, hz2, hzc⟩ : ∃ z : Int, (sh27.getD i (0, 0)).1 = z ∧ 0 ≤ z ∧ z ≤ 256 ∧ (prs sh0)[i * 2]? = some (.int .i64 z) := by
                rcases (by omega : i = 0 ∨ i = 1 ∨ i = 2) with rfl | rfl | rfl
                · exact ⟨8, rfl, by omega, by omega, rfl⟩
                · exact ⟨24, rfl, by omega, by omega, rfl⟩
                · exact ⟨256, rfl, by omega, by omega, rfl⟩
              have hb1 : byK lv (i + 1) = byK lv i + v * z := by
                show byK lv i + lv.getD i 0 * (sh27.getD i (0, 0)).1 = _
                rw [hvd, hz]
              have hp0 : 0 ≤ v * z := Int.mul_nonneg hvb.1 hz1
              have hp1 : v * z ≤ 2000 * 256 := Int.mul_le_mul hvb.2 hz2 hz1 (by omega)
              obtain ⟨vz, hvz⟩ : ∃ q, q = v * z := ⟨_, rfl⟩
              have HVZ := hide hvz
              rw [← hvz] at hb1 hp0 hp1
              obtain ⟨by0, hby0⟩ : ∃ q, q = byK lv i := ⟨_, rfl⟩
              rw [← hby0] at hb1 hby HU7
              have hby2 : 0 ≤ byK lv (i + 1) ∧ byK lv (i + 1) ≤ ((i + 1 : Nat) : Int) * 512000 := by rw [hb1]; push_cast; omega
              have HB1 := hide hb1
              have wvz : IntKind.i64.wrap (v * z) = vz := by rw [HVZ.out]; exact IntWalk.i64_in _ (by rw [← HVZ.out]; omega)
              have wby : IntKind.i64.wrap (by0 + vz) = by0 + vz := IntWalk.i64_in _ (by omega)
              have hvb2 := hvb
              obtain ⟨bC, oC, rfl, hbC, hcC⟩ := ((HC.out.more hB).keptB HK7.out (fun _ _ h => h)).2 (by omega)
              have z0 := hcC (i * 2) _ hzc
              have y0 : wq.cell? ⟨gl, i, none⟩ = some (.int .i64 v) := (HL7.out.cell i).trans (by rw [List.getElem?_toArray, List.getElem?_map, hv]; rfl)
              have y1 : wq.cell? ⟨g5, 1, none⟩ = some (.int .i64 by0) := HU7.out.cell 1
              have f1 := HU7.out.frozen 1
              have h5l := HU7.out.lt
              have hll := HL7.out.lt
              have hiI : (i : Int) < 3 := by omega
              have hi00 : (0 : Int) ≤ (i : Int) := by omega
              clear hv hvd hz hzc hb1 hvz hby0 hcC hlt
              go_upto_region 28 with fail
              trace "R28"
              have k8 : Keeps (· = g5) wq (wq.drew.setCell ⟨g5, 1, none⟩ (.int .i64 (by0 + vz))) := ((Keeps.refl _ wq).drew).trans (keepsOne _ g5 1 _)
              have u8 : Blk (wq.drew.setCell ⟨g5, 1, none⟩ (.int .i64 (by0 + vz))) g5 46 #[.slice (some ⟨gl, 0, none⟩) 3 3, .int .i64 (byK lv (i + 1)), .int .i64 0] := by
                rw [HB1.out]
                exact (show Blk wq.drew g5 46 #[.slice (some ⟨gl, 0, none⟩) 3 3, .int .i64 by0, .int .i64 0] from HU7.out).set 1 (.int .i64 (by0 + vz))
              have HU8 := hide u8
              have HL8 := hide (HL7.out.kept k8 (fun e => by omega))
              have HR8 := hide (HR7.out.kept k8 (fun e => by omega))
              have HK8 := hide (HK7.out.step k8 (fun q hq e => by omega))
              clear k8 u8 HB1 HVZ
              have HSg : Hid (∀ V, Keeps (fun _ => False) wq V → (V.cell? ⟨g5, 1, none⟩ = some (.int .i64 by0) ∧ V.cell? ⟨bC, oC + i * 2, none⟩ = some (.int .i64 z))) := hide (fun V kV => ⟨kV.cell_some y1 (fun h => h), kV.cell_some z0 (fun h => h)⟩)
              refine wp_region_N 11 (S := fun V => V.cell? ⟨g5, 1, none⟩ = some (.int .i64 by0) ∧ V.cell? ⟨bC, oC + i * 2, none⟩ = some (.int .i64 z)) (by kernel_rfl) (HSg.out _ ((Keeps.refl _ _).drew)) (fun hHeld => ?_)
              refine wpAnyN_take (i := 0) (v := ?_) rfl (by kernel_rfl) (by kernel_rfl) (by kernel_rfl) (by kernel_rfl) (by kernel_rfl) (by kernel_rfl) (fun _ _ _ h => h) (Or.inl ⟨by first | kernel_rfl | rfl, ?_⟩) (by assumption) ?_; rotate_left; focus (intro w hSw; (try dsimp only at hSw); go_simp; try (with_reducible rfl)); (try simp only [Act.put, List.getElem_toArray, List.getElem_cons_succ, List.getElem_cons_zero, List.setIfInBounds_toArray, List.set_cons_zero, List.set_cons_succ])
              refine wpAnyN_take (i := 1) (v := ?_) rfl (by kernel_rfl) (by kernel_rfl) (by kernel_rfl) (by kernel_rfl) (by kernel_rfl) (by kernel_rfl) (fun _ _ _ h => h) (Or.inl ⟨by first | kernel_rfl | rfl, ?_⟩) (by assumption) ?_; rotate_left; focus (intro w hSw; (try dsimp only at hSw); go_simp; try (with_reducible rfl)); (try simp only [Act.put, List.getElem_toArray, List.getElem_cons_succ, List.getElem_cons_zero, List.setIfInBounds_toArray, List.set_cons_zero, List.set_cons_succ])
              refine wpAnyN_take (i := 2) (v := ?_) rfl (by kernel_rfl) (by kernel_rfl) (by kernel_rfl) (by kernel_rfl) (by kernel_rfl) (by kernel_rfl) (fun _ _ _ h => h) (Or.inl ⟨by first | kernel_rfl | rfl, ?_⟩) (by assumption) ?_; rotate_left; focus (intro w hSw; (try dsimp only at hSw); go_simp; try (with_reducible rfl)); (try simp only [Act.put, List.getElem_toArray, List.getElem_cons_succ, List.getElem_cons_zero, List.setIfInBounds_toArray, List.set_cons_zero, List.set_cons_succ])
              refine wpAnyN_take (i := 3) (v := ?_) rfl (by kernel_rfl) (by kernel_rfl) (by kernel_rfl) (by kernel_rfl) (by kernel_rfl) (by kernel_rfl) (fun _ _ _ h => h) (Or.inl ⟨by first | kernel_rfl | rfl, ?_⟩) (by assumption) ?_; rotate_left; focus (intro w hSw; (try dsimp only at hSw); go_simp; try (with_reducible rfl)); (try simp only [Act.put, List.getElem_toArray, List.getElem_cons_succ, List.getElem_cons_zero, List.setIfInBounds_toArray, List.set_cons_zero, List.set_cons_succ])
              refine wpAnyN_take (i := 4) (v := ?_) rfl (by kernel_rfl) (by kernel_rfl) (by kernel_rfl) (by kernel_rfl) (by kernel_rfl) (by kernel_rfl) (fun _ _ _ h => h) (Or.inl ⟨by first | kernel_rfl | rfl, ?_⟩) (by assumption) ?_; rotate_left; focus (intro w hSw; (try dsimp only at hSw); go_simp; try (with_reducible rfl)); (try simp only [Act.put, List.getElem_toArray, List.getElem_cons_succ, List.getElem_cons_zero, List.setIfInBounds_toArray, List.set_cons_zero, List.set_cons_succ])
              refine wpAnyN_take (i := 5) (v := ?_) rfl (by kernel_rfl) (by kernel_rfl) (by kernel_rfl) (by kernel_rfl) (by kernel_rfl) (by kernel_rfl) (fun _ _ _ h => h) (Or.inl ⟨by first | kernel_rfl | rfl, ?_⟩) (by assumption) ?_; rotate_left; focus (intro w hSw; (try dsimp only at hSw); go_simp; try (with_reducible rfl)); (try simp only [Act.put, List.getElem_toArray, List.getElem_cons_succ, List.getElem_cons_zero, List.setIfInBounds_toArray, List.set_cons_zero, List.set_cons_succ])
              refine wpAnyN_take (i := 6) (v := ?_) rfl (by kernel_rfl) (by kernel_rfl) (by kernel_rfl) (by kernel_rfl) (by kernel_rfl) (by kernel_rfl) (fun _ _ _ h => h) (Or.inl ⟨by first | kernel_rfl | rfl, ?_⟩) (by assumption) ?_; rotate_left; focus (intro w hSw; (try dsimp only at hSw); go_simp; try (with_reducible rfl)); (try simp only [Act.put, List.getElem_toArray, List.getElem_cons_succ, List.getElem_cons_zero, List.setIfInBounds_toArray, List.set_cons_zero, List.set_cons_succ])
              refine wpAnyN_take (i := 7) (v := ?_) rfl (by kernel_rfl) (by kernel_rfl) (by kernel_rfl) (by kernel_rfl) (by kernel_rfl) (by kernel_rfl) (fun _ _ _ h => h) (Or.inl ⟨by first | kernel_rfl | rfl, ?_⟩) (by assumption) ?_; rotate_left; focus (intro w hSw; (try dsimp only at hSw); go_simp; try (with_reducible rfl)); (try simp only [Act.put, List.getElem_toArray, List.getElem_cons_succ, List.getElem_cons_zero, List.setIfInBounds_toArray, List.set_cons_zero, List.set_cons_succ])
              refine wpAnyN_take (i := 8) (v := ?_) rfl (by kernel_rfl) (by kernel_rfl) (by kernel_rfl) (by kernel_rfl) (by kernel_rfl) (by kernel_rfl) (fun _ _ _ h => h) (Or.inl ⟨by first | kernel_rfl | rfl, ?_⟩) (by assumption) ?_; rotate_left; focus (intro w hSw; (try dsimp only at hSw); go_simp; try (with_reducible rfl)); (try simp only [Act.put, List.getElem_toArray, List.getElem_cons_succ, List.getElem_cons_zero, List.setIfInBounds_toArray, List.set_cons_zero, List.set_cons_succ])
              refine wpAnyN_take (i := 9) (v := ?_) rfl (by kernel_rfl) (by kernel_rfl) (by kernel_rfl) (by kernel_rfl) (by kernel_rfl) (by kernel_rfl) (fun _ _ _ h => h) (Or.inl ⟨by first | kernel_rfl | rfl, ?_⟩) (by assumption) ?_; rotate_left; focus (intro w hSw; (try dsimp only at hSw); go_simp; try (with_reducible rfl)); (try simp only [Act.put, List.getElem_toArray, List.getElem_cons_succ, List.getElem_cons_zero, List.setIfInBounds_toArray, List.set_cons_zero, List.set_cons_succ])
              refine wpAnyN_take (i := 10) (v := ?_) rfl (by kernel_rfl) (by kernel_rfl) (by kernel_rfl) (by kernel_rfl) (by kernel_rfl) (by kernel_rfl) (fun _ _ _ h => h) (Or.inl ⟨by first | kernel_rfl | rfl, ?_⟩) (by assumption) ?_; rotate_left; focus (intro w hSw; (try dsimp only at hSw); go_simp; try (with_reducible rfl)); (try simp only [Act.put, List.getElem_toArray, List.getElem_cons_succ, List.getElem_cons_zero, List.setIfInBounds_toArray, List.set_cons_zero, List.set_cons_succ])
              refine wpAnyN_last (by kernel_rfl) rfl (fun K hK => ?_)
              go_simp
              refine hK.out _ _ ?_
              clear hK K hHeld
              (try simp only [Act.put, List.getElem_toArray, List.getElem_cons_succ, List.getElem_cons_zero, List.setIfInBounds_toArray, List.set_cons_zero, List.set_cons_succ])
              refine wpAnyN_done (by kernel_rfl) ?_ _
              (try simp only [Act.put, List.getElem_toArray, List.getElem_cons_succ, List.getElem_cons_zero, List.setIfInBounds_toArray, List.set_cons_zero, List.set_cons_succ])
              trace "R28b"
              clear y0 y1 f1 h5l hll z0 wvz wby HSg
              go_wp2_with fail
              go_roundw
              case rel => exact ⟨i + 1, by omega, by go_num, HL8, HU8, HR8, HK8, hby2⟩
              case measure => simp [intOf]; omega
            · obtain rfl : i = 3 := by omega
              clear hlt
              obtain ⟨by0, hby0⟩ : ∃ q, q = byK lv 3 := ⟨_, rfl⟩
              rw [← hby0] at HU7
              have HBy := hide hby0
              obtain ⟨⟨u0, u1, u2⟩, _, hul⟩ := HU7.out.three
              obtain ⟨⟨r0, r1, r2⟩, ⟨f0, f1, f2⟩, hrl⟩ := HR7.out.three
              obtain ⟨hs8, ks8⟩ := set_u3 HR7.out (.slice (some ⟨gl, 0, none⟩) 3 3) (.int .i64 by0) (.int .i64 0)
              have HL8 := hide (HL7.out.kept ks8 (fun e => by omega))
              have HK8 := hide (HK7.out.step ks8 (fun q hq e => by omega))
              have HS8 := hide hs8
              clear hs8 ks8 hby0 hby
              go_wp2_with fail
              trace "END"
              obtain ⟨w8, hw8⟩ : ∃ x, x = ((wq.setCell ⟨g4, 0, none⟩ (.slice (some ⟨gl, 0, none⟩) 3 3)).setCell ⟨g4, 1, none⟩ (.int .i64 by0)).setCell ⟨g4, 2, none⟩ (.int .i64 0) := ⟨_, rfl⟩
              rw [← hw8] at HS8 HL8 HK8 ⊢
              obtain ⟨⟨r0, r1, r2⟩, _⟩ := HS8.out.three
              clear hw8
              refine bodyPost_ret (v := .agg #[.slice (some ⟨gl, 0, none⟩) 3 3, .int .i64 by0, .int .i64 0]) (by simp [results, Try.results66, go_sem, r0, r1, r2]) rfl ?_
              exact ⟨some ⟨gl, 0, none⟩, 3, by rw [HBy.out, HLV.out, hlen.out], by rw [hlen.out, ← HLV.out]; exact own_blkQ HL8.out (by rw [List.length_map, HHl.out]) (by simp [maxLen]) _ (by omega), HK8.out⟩
end Go.Proofs.Ytidobhflijdccaa

set_option linter.unusedVariables false
set_option linter.unusedSimpArgs false
namespace Go.Proofs.Ytidobhflijdccaa
open Go.RowKit Cfp
theorem lives_at (s : Ar) (i : Nat) : (livesA s).getD i 0 = (s.cls.getD i Cls.nil).live := by
  rw [List.getD, List.getD]
  unfold livesA
  rw [List.getElem?_map]
  rcases s.cls[i]? with _ | c <;> rfl
theorem size_at {s : Ar} (h : shapeA s = sh27) (i : Nat) : (s.cls.getD i Cls.nil).size = (sh27.getD i (0, 0)).1 := by
  rw [← h, List.getD, List.getD]
  unfold shapeA
  rw [List.getElem?_map]
  rcases s.cls[i]? with _ | c <;> rfl
theorem bytes_byK {s : Ar} (h : shapeA s = sh27) : ∀ k, bytesN s.cls k = byK (livesA s) k
  | 0 => rfl
  | k + 1 => by
    have ih := bytes_byK h k
    show bytesN s.cls k + (s.cls.getD k Cls.nil).live * (s.cls.getD k Cls.nil).size = byK (livesA s) k + (livesA s).getD k 0 * (sh27.getD k (0, 0)).1
    rw [ih, lives_at, size_at h]
theorem QInv.lvs {W : List Wt} {E : List PE} {s : Ar} {L : Nat → List Nat} {D : KD} {M M2 : Int} (h : QInv sh27 W E s L D M M2) : livesA s = lvK W.length (keysOf W) := by
  have h24 : fitS sh27 24 = 1 := by rw [fit27]; decide
  have hl := h.lenL
  have hk : ∀ i, (cntF sh27 i E : Int) = kCnt i (keysOf W) := fun i => by rw [h.keys]; rfl
  have key : ∀ i, i < 3 → (livesA s).getD i 0 = (if i = 1 then (W.length : Int) else 0) + kCnt i (keysOf W) := fun i hi => by
    rw [h.lv i hi, h24, hk]
  refine List.ext_getElem? fun i => ?_
  rcases Nat.lt_or_ge i 3 with hi | hi
  · have h1 := key i hi
    have hi2 : i < (livesA s).length := by rw [hl]; exact hi
    rw [List.getD, List.getElem?_eq_getElem hi2] at h1
    rw [List.getElem?_eq_getElem hi2]
    simp only [Option.getD_some] at h1
    rw [h1]
    unfold lvK
    rcases (by omega : i = 0 ∨ i = 1 ∨ i = 2) with rfl | rfl | rfl
    · simp
    · simp
    · simp
  · rw [List.getElem?_eq_none (by rw [hl]; exact hi), List.getElem?_eq_none (by exact hi)]
section
variable {w w' : World} {B q a p mb G n : Nat} {W : List Wt} {M : Int}
theorem usage27 (h : Q27 w B q a p mb G n W M) : Calls Try.prog 26 #[.pointer (some ⟨a, 0, none⟩)] w fun e w' => ∃ D m, e = .returned (.agg #[.slice D 3 m, .int .i64 (byK (lvK W.length (keysOf W)) 3), .int .i64 0]) ∧ Own w' w.heap.size 3 1 D 3 m ((lvK W.length (keysOf W)).map (.int .i64)) ∧ Keeps (fun _ => False) w w' := by
  obtain ⟨R, E, EA, cap, D, s, L, hq, hb⟩ := h
  have hU := usage_inv B a s L _ w hq.ar hq.iv.iv
  have h3 : s.cls.length = 3 := by have := congrArg List.length hq.iv.hsh; simpa [shapeA, sh27] using this
  rw [h3, bytes_byK hq.iv.hsh, hq.iv.lvs, hq.iv.fa] at hU
  exact hU
theorem len27 (h : Q27 w B q a p mb G n W M) : Calls Try.prog 56 #[.pointer (some ⟨q, 0, none⟩)] w fun e w' => e = .returned (.int .i64 (W.length : Int)) ∧ w' = w := by
  obtain ⟨R, E, EA, cap, D, s, L, hq, hb⟩ := h
  exact qlen_ok w B q a p G n W R hq.qu
theorem until27 (h : Q27 w B q a p mb G n W M) (z : Int) : Calls Try.prog 62 #[.pointer (some ⟨q, 0, none⟩), .int .i64 z] w fun e w' => e = .returned (.int .i64 (untilN z W : Int)) ∧ w' = w := by
  obtain ⟨R, E, EA, cap, D, s, L, hq, hb⟩ := h
  exact quntil_ok w B q a p G n W R hq.qu hq.n64 z
theorem weight27 (h : Q27 w B q a p mb G n W M) (hM : M ≤ 900) (z : Int) (t : ByteArray) : Calls Try.prog 61 #[.pointer (some ⟨q, 0, none⟩), .int .i64 z, .string t] w fun e w' => e = .returned (.int .u64 (wgtF z t.data.toList W)) ∧ Keeps (fun _ => False) w w' := by
  obtain ⟨R, E, EA, cap, D, s, L, hq, hb⟩ := h
  exact qweight_ok w B q a p mb G n 200 sh27 W R E EA cap D s L M (2 * M) hq (by omega) hb z t
theorem pushfull27 (h : Q27 w B q a p mb G n W M) (hl : W.length = n) (t : ByteArray) (win time wgt : Int) :
    Calls Try.prog 57 #[.pointer (some ⟨q, 0, none⟩), .int .i64 win, .agg #[.string t, .int .i64 time, .int .u64 wgt]] w fun e w' => e = .returned (.int .i64 7) ∧ Keeps (fun _ => False) w w' := by
  obtain ⟨R, E, EA, cap, D, s, L, hq, hb⟩ := h
  exact push_full w B q a p mb G n 200 sh27 W R E EA cap D s L M (2 * M) t win time wgt hq hl
theorem pushkey27 (h : Q27 w B q a p mb G n W M) (hl : W.length < n) (t : ByteArray) (ht : t.size ≤ 1000) (hk : t.size = 0 ∨ 255 < t.size) (win time wgt : Int) :
    Calls Try.prog 57 #[.pointer (some ⟨q, 0, none⟩), .int .i64 win, .agg #[.string t, .int .i64 time, .int .u64 wgt]] w fun e w' => e = .returned (.int .i64 (if t.size = 0 then 3 else 4)) ∧ Keeps (fun _ => False) w w' := by
  obtain ⟨R, E, EA, cap, D, s, L, hq, hb⟩ := h
  exact push_key w B q a p mb G n 200 sh27 W R E EA cap D s L M (2 * M) t win time wgt hq hl (by omega) hk
theorem popnone27 (h : Q27 w B q a p mb G n [] M) : Calls Try.prog 60 #[.pointer (some ⟨q, 0, none⟩)] w fun e w' => e = .returned (.tuple #[.int .i64 0, .agg #[.string ⟨#[]⟩, .int .i64 0, .int .u64 0], .bool false]) ∧ Keeps (fun _ => False) w w' := by
  obtain ⟨R, E, EA, cap, D, s, L, hq, hb⟩ := h
  exact pop_none w B q a p G n R hq.qu
theorem Q27.most (h : Q27 w B q a p mb G n W M) : W.length ≤ n ∧ ∀ x ∈ W, 1 ≤ x.text.length ∧ x.text.length ≤ 255 := by
  obtain ⟨R, E, EA, cap, D, s, L, hq, hb⟩ := h
  refine ⟨hq.len, fun x hx => ?_⟩
  obtain ⟨e, he, hk, hu, h1, h2⟩ := hq.iv.users hx
  rw [← hk]
  exact ⟨h1, h2⟩
theorem Q27.wg (h : Q27 w B q a p mb G n W M) : WgB W := by
  obtain ⟨R, E, EA, cap, D, s, L, hq, hb⟩ := h
  exact hb
theorem Q27.item {g : Nat} {cs : Array Value} (h : Q27 w B q a p mb G n W M) (hblk : Blk w g 92 cs) (k : Keeps (· = g) w w') : Q27 w' B q a p mb G n W M := by
  obtain ⟨R, E, EA, cap, D, s, L, hq, hb⟩ := h
  obtain ⟨cs, hG⟩ := hq.qu.blkG
  exact ⟨R, E, EA, cap, D, s, L, ⟨hq.qu.kept k (fun e => by subst e; exact absurd (blk_type hblk hq.qu.blk) (by decide)) (fun e => by subst e; exact absurd (blk_type hblk hG) (by decide)), hq.po.kept k (fun b e => by subst e; exact .inr ⟨_, _, hblk, by decide, by decide⟩), hq.ar.kept k (fun b e => by subst e; exact .inr ⟨_, _, hblk, by decide, by decide, by decide, by decide⟩), hq.iv, Nat.le_trans hq.hB k.size, hq.kn, hq.n64⟩, hb⟩
end
namespace queueSteps
/-- what stands beside the queue -/
structure Rest (w : World) (B g g9 : Nat) (raw : Array Value) (wx : World) : Prop where
  deck : IsDeck wx w.heap.size g
  k : Keeps (fun _ => False) w wx
  raw : Blk wx g9 92 raw
  gB : g9 < B
  wB : w.heap.size ≤ B
  w9 : w.heap.size ≤ g9
  wg : w.heap.size ≤ g
/-- between two statements of a round -/
structure Mid (w : World) (B q a p mb G n g g9 : Nat) (raw : Array Value) (K : Nat) (A : Option Addr) (m c : Nat) (W : List Wt) (wx : World) : Prop where
  rest : Rest w B g g9 raw wx
  wl : WL wx w.heap.size A m W
  mc : m ≤ c
  q27 : ∃ M : Int, 0 ≤ M ∧ M ≤ K ∧ Q27 wx B q a p mb G n W M
section
variable {w wx wy : World} {B q a p mb G n g g9 K m c : Nat} {raw : Array Value} {A : Option Addr} {W : List Wt}
theorem Rest.quiet (h : Rest w B g g9 raw wx) (k : Keeps (fun _ => False) wx wy) : Rest w B g g9 raw wy :=
  ⟨h.deck.kept k (fun h => h) (fun _ _ h => h), h.k.trans k, h.raw.kept k (fun h => h), h.gB, h.wB, h.w9, h.wg⟩
theorem Rest.qs (h : Rest w B g g9 raw wx) (k : Keeps (QuS B wx) wx wy) : Rest w B g g9 raw wy :=
  ⟨h.deck.quS k h.wB, QuS.to0 h.k k h.wB, h.raw.kept k (QuS.low h.gB), h.gB, h.wB, h.w9, h.wg⟩
theorem Rest.dk (h : Rest w B g g9 raw wx) (d : IsDeck wy w.heap.size g) (k : Keeps (· = g) wx wy) : Rest w B g g9 raw wy :=
  ⟨d, h.k.step k (fun q hq e => by have := h.wg; omega), h.raw.kept k (fun e => by subst e; obtain ⟨_, _, _, _, _, hblk, _⟩ := h.deck; exact absurd (blk_type h.raw hblk) (by decide)), h.gB, h.wB, h.w9, h.wg⟩
theorem Rest.item {gx : Nat} {cs : Array Value} (h : Rest w B g g9 raw wx) (hb : Blk wx gx 92 cs) (k : Keeps (· = gx) wx wy) (h9 : g9 < gx) : Rest w B g g9 raw wy :=
  ⟨h.deck.kept k (fun e => by subst e; obtain ⟨_, _, _, _, _, hblk, _⟩ := h.deck; exact absurd (blk_type hb hblk) (by decide)) (fun b hb e => by have := h.w9; omega), h.k.step k (fun q hq e => by have := h.w9; omega), h.raw.kept k (fun e => by omega), h.gB, h.wB, h.w9, h.wg⟩
theorem WL.qs (h : WL wx w.heap.size A m W) (k : Keeps (QuS B wx) wx wy) : WL wy w.heap.size A m W :=
  h.kept k (fun b cs hb _ => QuS.not hb (by decide) (by decide) (by decide) (by decide) (by decide) (by decide) (by decide))
theorem Mid.quiet (h : Mid w B q a p mb G n g g9 raw K A m c W wx) (k : Keeps (fun _ => False) wx wy) : Mid w B q a p mb G n g g9 raw K A m c W wy := by
  obtain ⟨M, h1, h2, h3⟩ := h.q27
  exact ⟨h.rest.quiet k, h.wl.quiet k, h.mc, M, h1, h2, h3.quiet k⟩
theorem Mid.more {K' : Nat} (h : Mid w B q a p mb G n g g9 raw K A m c W wx) (hK : K ≤ K') : Mid w B q a p mb G n g g9 raw K' A m c W wx := by
  obtain ⟨M, h1, h2, h3⟩ := h.q27
  exact ⟨h.rest, h.wl, h.mc, M, h1, by omega, h3⟩
theorem Mid.dk (h : Mid w B q a p mb G n g g9 raw K A m c W wx) (d : IsDeck wy w.heap.size g) (k : Keeps (· = g) wx wy) : Mid w B q a p mb G n g g9 raw K A m c W wy := by
  obtain ⟨M, h1, h2, h3⟩ := h.q27
  refine ⟨h.rest.dk d k, h.wl.kept k (fun b cs hb _ e => ?_), h.mc, M, h1, h2, h3.deck h.rest.deck k⟩
  subst e
  obtain ⟨_, _, _, _, _, hblk, _⟩ := h.rest.deck
  exact absurd (blk_type hb hblk) (by decide)
theorem Mid.item {gx : Nat} {cs : Array Value} (h : Mid w B q a p mb G n g g9 raw K A m c W wx) (hb : Blk wx gx 92 cs) (k : Keeps (· = gx) wx wy) (h9 : g9 < gx) : Mid w B q a p mb G n g g9 raw K A m c W wy := by
  obtain ⟨M, h1, h2, h3⟩ := h.q27
  refine ⟨h.rest.item hb k h9, h.wl.kept k (fun b cs' hb' _ e => ?_), h.mc, M, h1, h2, h3.item hb k⟩
  subst e
  exact absurd (blk_type hb hb') (by decide)
end
end queueSteps
end Go.Proofs.Ytidobhflijdccaa
