/-
  The exact store: its entries in order, and where a key stands. No conditions beyond those of the statement.
-/
import Derived.Test.YtmbgnekilgobaaaLv
import Derived.Test.YtmbgnekilgobaaaLy
set_option linter.unusedVariables false
set_option linter.unusedSimpArgs false
namespace Go.Proofs.Ytmbgnekilgobaaa
open Go.RowKit
/-- the entry x stands ahead of the key k -/
def kLt (x : Ln) (k : ByteArray) : Bool := Op.bytesLess x.key.toList k.toList
/-- entries in ascending order of their keys -/
def Asc (l : List Ln) : Prop := l.Pairwise fun x y => Op.bytesLess x.key.toList y.key.toList = true
/-- the place of a key -/
def posK (l : List Ln) (k : ByteArray) : Nat := (l.takeWhile fun x => kLt x k).length
theorem posK_le (l : List Ln) (k : ByteArray) : posK l k ≤ l.length := by
  unfold posK
  induction l with
  | nil => simp
  | cons x l ih =>
    rw [List.takeWhile_cons]
    split <;> simp <;> omega
theorem posK_eq {l : List Ln} {k : ByteArray} {p : Nat} (hp : p ≤ l.length) (h1 : ∀ i x, i < p → l[i]? = some x → kLt x k = true) (h2 : ∀ x, l[p]? = some x → kLt x k = false) : posK l k = p := by
  induction l generalizing p with
  | nil => simp at hp; subst hp; rfl
  | cons y l ih =>
    rcases p with _ | p
    · have := h2 y rfl
      unfold posK
      rw [List.takeWhile_cons, if_neg (by rw [this]; decide)]
      rfl
    · have := h1 0 y (by omega) rfl
      have e := ih (p := p) (by simpa using hp) (fun i x hi hx => h1 (i + 1) x (by omega) (by simpa using hx)) (fun x hx => h2 x (by simpa using hx))
      unfold posK at e ⊢
      rw [List.takeWhile_cons, if_pos this, List.length_cons, e]
theorem kLt_mono {l : List Ln} (h : Asc l) {k : ByteArray} {i j : Nat} {x y : Ln} (hij : i ≤ j) (hx : l[i]? = some x) (hy : l[j]? = some y) (hk : kLt y k = true) : kLt x k = true := by
  rcases Nat.eq_or_lt_of_le hij with rfl | hlt
  · rw [hx] at hy; injection hy with hy; rw [hy]; exact hk
  · have h1 := List.getElem?_eq_some_iff.1 hx
    have h2 := List.getElem?_eq_some_iff.1 hy
    have := List.pairwise_iff_getElem.1 h i j h1.1 h2.1 hlt
    rw [h1.2, h2.2] at this
    exact bl_tr _ _ _ this hk
theorem kLt_cmp (x : Ln) (k : ByteArray) : decide (Lib.compareBytes x.key.data.toList k.data.toList < 0) = kLt x k := by
  unfold kLt
  rw [cmpB, ByteArray.toList_eq, ByteArray.toList_eq]
  rcases e : Op.bytesLess x.key.data.toList k.data.toList with _ | _
  · rcases e2 : Op.bytesLess k.data.toList x.key.data.toList with _ | _ <;> simp
  · simp
/-- the key is there -/
def foundK (l : List Ln) (k : ByteArray) : Bool := match l[posK l k]? with
  | some x => Lib.compareBytes x.key.data.toList k.data.toList == 0
  | none => false
theorem cmp_zero (a b : ByteArray) : (Lib.compareBytes a.data.toList b.data.toList == 0) = true ↔ a = b := by
  rw [cmpB, beq_iff_eq]
  constructor
  · intro h
    rcases bl_tri a.data.toList b.data.toList with e | e | e
    · rw [if_pos e] at h; cases h
    · cases a; cases b; congr 1; exact Array.ext' e
    · have : Op.bytesLess a.data.toList b.data.toList = false := by
        rcases e2 : Op.bytesLess a.data.toList b.data.toList with _ | _
        · rfl
        · have := bl_tr _ _ _ e e2
          rw [bl_irr] at this; cases this
      rw [this, if_neg (by decide), if_pos e] at h
      cases h
  · rintro rfl
    simp [bl_irr]
theorem elemEn : ElemOf Try.prog 72 53 3 32 := ElemOf.mk' (z := .agg #[.string ⟨#[]⟩, .int .u64 0, .int .u64 0]) Try.underlying72 (by kernel_rfl) rfl (by omega)
/-- the entries l lie in the slice A -/
abbrev Ens (w : World) (B : Nat) (A : Option Addr) (n c : Nat) (l : List Ln) : Prop := Own w B 53 3 A n c (lnCs l)
theorem fcmp_any (x : Ln) (k : ByteArray) (g : Nat) (w : World) (hk : w.cell? ⟨g, 0, none⟩ = some (.string k)) (hg : g < w.heap.size) :
    Calls Try.prog 79 #[.agg (lnC x).toArray, .pointer (some ⟨g, 0, none⟩)] w fun e w' => e = .returned (.int .i64 (Lib.compareBytes x.key.data.toList k.data.toList)) ∧ Keeps (fun _ => False) w w' := by
  unfold lnC
  go_enter Try.func79, Try.ntmps79
  go_wp2_with fail
  refine (compare_any _ _ _).mono ?_
  rintro e w1 ⟨rfl, rfl⟩
  go_wp2_with fail
  go_ret
  exact ⟨rfl, (Keeps.refl _ _).alloc _⟩
set_option maxRecDepth 100000 in
set_option maxHeartbeats 1000000 in
theorem bisect_any (w : World) (B : Nat) (A : Option Addr) (n c : Nat) (l : List Ln) (k : ByteArray) (g : Nat) (hr : Rd w B A 3 n (lnCs l)) (hn : n ≤ 1000000) (hs : Asc l) (hk : w.cell? ⟨g, 0, none⟩ = some (.string k)) (hg : g < w.heap.size) :
    Calls Try.prog 78 #[.slice A n c, .func (.func 79) #[] #[.pointer (some ⟨g, 0, none⟩)]] w fun e w' => e = .returned (.tuple #[.int .i64 (posK l k : Nat), .bool (foundK l k)]) ∧ Keeps (fun _ => False) w w' := by
  have HL := hide (lnRd_len hr)
  have HR := hide hr
  have HS := hide hs
  have HK := hide hk
  clear hr hs hk
  go_enter Try.func78, Try.ntmps78
  go_upto_region 2 with fail
  go_loopw [6, 7] (fun lv hv wr => ∃ lo hi : Nat, lo ≤ hi ∧ hi ≤ n ∧ lv = .int .i64 (lo : Int) ∧ hv = .int .i64 (hi : Int) ∧ Hid ((∀ i x, i < lo → l[i]? = some x → kLt x k = true) ∧ (∀ i x, hi ≤ i → l[i]? = some x → kLt x k = false)) ∧ Hid (Keeps (fun _ => False) w wr)) (fun lv hv _ => (intOf hv).toNat - (intOf lv).toNat)
  case atStart => exact ⟨0, n, by omega, by omega, rfl, rfl, hide ⟨fun i x h => by omega, fun i x h hx => by have := (List.getElem?_eq_some_iff.1 hx).1; have := HL.out; omega⟩, hide (Keeps.refl _ _)⟩
  case round =>
    obtain ⟨lo, hi, hlh, hhn, rfl, rfl, HF, HW⟩ := hrel
    obtain ⟨wo, rfl⟩ : ∃ wo : World, wo = wr := ⟨_, rfl⟩
    by_cases hlt : lo < hi
    · have e1 : decide (lo < hi) = true := by simpa using hlt
      obtain ⟨m, hm⟩ : ∃ m : Nat, m = (lo + hi) / 2 := ⟨_, rfl⟩
      have he : ((lo : Int) + (hi : Int)) / 2 = (m : Int) := by omega
      have hmb : lo ≤ m ∧ m < hi := by omega
      obtain ⟨x, hx⟩ : ∃ x, l[m]? = some x := ⟨l[m]'(by rw [HL.out]; omega), List.getElem?_eq_getElem _⟩
      obtain ⟨b, off, rfl, _, p0, p1, p2⟩ := lnRd_at (HR.out.kept HW.out (fun _ _ h => h)) hx (by omega)
      have hmI : (m : Int) < (n : Int) := by omega
      have HX := hide hx
      have kc := HW.out.cell_some HK.out (fun h => h)
      have kl : g < wo.heap.size := by have := HW.out.size; omega
      have wm1 : IntKind.i64.wrap ((m : Int) + 1) = ((m + 1 : Nat) : Int) := by rw [IntWalk.i64_in _ (by omega)]; omega
      clear hx hm
      go_wp2_with fail
      refine (fcmp_any x k g wo kc kl).mono ?_
      rintro e w2 ⟨rfl, k2⟩
      have K2 := hide (HW.out.trans k2)
      have hcm := kLt_cmp x k
      generalize Lib.compareBytes x.key.data.toList k.data.toList = cv at *
      clear k2 kc kl p0 p1 p2
      rcases hk : kLt x k with _ | _
      · rw [hk] at hcm
        have HF2 : Hid ((∀ i x, i < lo → l[i]? = some x → kLt x k = true) ∧ (∀ i x, m ≤ i → l[i]? = some x → kLt x k = false)) := hide ⟨HF.out.1, fun i y hi hy => by
          rcases e : kLt y k with _ | _
          · rfl
          · rw [kLt_mono HS.out hi HX.out hy e] at hk
            cases hk⟩
        clear hk
        go_wp2_with fail
        go_roundw
        case rel => exact ⟨lo, m, by omega, by omega, rfl, rfl, HF2, K2⟩
        case measure => simp [intOf]; omega
      · rw [hk] at hcm
        have HF2 : Hid ((∀ i x, i < m + 1 → l[i]? = some x → kLt x k = true) ∧ (∀ i x, hi ≤ i → l[i]? = some x → kLt x k = false)) := hide ⟨fun i y hi hy => kLt_mono HS.out (Nat.lt_succ_iff.1 hi) hy HX.out hk, HF.out.2⟩
        clear hk
        go_wp2_with fail
        go_roundw
        case rel => exact ⟨m + 1, hi, by omega, by omega, by go_num, rfl, HF2, K2⟩
        case measure => simp [intOf]; omega
    · have e1 : decide (lo < hi) = false := by simpa using hlt
      obtain rfl : lo = hi := by omega
      have HP : Hid (posK l k = lo) := hide (posK_eq (by rw [HL.out]; exact hhn) HF.out.1 (fun x hx => HF.out.2 lo x (Nat.le_refl _) hx))
      by_cases hln : lo < n
      · have e2 : decide (lo < n) = true := by simpa using hln
        obtain ⟨x, hx⟩ : ∃ x, l[lo]? = some x := ⟨l[lo]'(by rw [HL.out]; omega), List.getElem?_eq_getElem _⟩
        obtain ⟨b, off, rfl, _, p0, p1, p2⟩ := lnRd_at (HR.out.kept HW.out (fun _ _ h => h)) hx (by omega)
        have HFo : Hid (foundK l k = (Lib.compareBytes x.key.data.toList k.data.toList == 0)) := hide (by unfold foundK; rw [HP.out, hx])
        have hmI : (lo : Int) < (n : Int) := by omega
        have kc := HW.out.cell_some HK.out (fun h => h)
        have kl : g < wo.heap.size := by have := HW.out.size; omega
        clear hx
        go_wp2_with fail
        refine (fcmp_any x k g wo kc kl).mono ?_
        rintro e w2 ⟨rfl, k2⟩
        have K2 := hide (HW.out.trans k2)
        clear k2 kc kl p0 p1 p2
        go_wp2_with fail
        go_ret2
        exact ⟨by rw [HP.out, HFo.out]; rfl, K2.out⟩
      · have e2 : decide (lo < n) = false := by simpa using hln
        have HFo : Hid (foundK l k = false) := hide (by unfold foundK; rw [HP.out, List.getElem?_eq_none (by rw [HL.out]; omega)])
        go_wp2_with fail
        go_ret2
        exact ⟨by rw [HP.out, HFo.out]; rfl, HW.out⟩
/-- a store in memory -/
def IsSt (w : World) (B g : Nat) (N : Int) (l : List Ln) : Prop := ∃ (A : Option Addr) (m c : Nat), Blk w g 93 #[.int .i64 N, .slice A m c] ∧ Ens w B A m c l ∧ B ≤ g ∧ Asc l ∧ m ≤ 100000
theorem find_any (w : World) (B s : Nat) (N : Int) (A : Option Addr) (m c : Nat) (l : List Ln) (k : ByteArray) (hb : Blk w s 93 #[.int .i64 N, .slice A m c]) (hr : Rd w B A 3 m (lnCs l)) (hs : Asc l) (hm : m ≤ 1000000) :
    Calls Try.prog 62 #[.pointer (some ⟨s, 0, none⟩), .string k] w fun e w' => e = .returned (.tuple #[.int .i64 (posK l k : Nat), .bool (foundK l k)]) ∧ Keeps (fun _ => False) w w' := by
  have k1 := (Keeps.refl (fun _ => False) w).alloc (.cells #[.string k] 9)
  have b1 := (Blk.new w 9 #[.string k]).cell 0
  have c1 := k1.cell_some (hb.cell 1) (fun h => h)
  have HR := hide (hr.kept k1 (fun _ _ h => h))
  have K1 := hide k1
  have HB1 := hide b1
  clear k1 b1 hr
  have hsl := hb.lt
  go_enter Try.func62, Try.ntmps62
  go_wp2_with fail
  refine (bisect_any _ _ _ _ _ l k _ HR.out hm hs HB1.out (by simp)).mono ?_
  rintro e w2 ⟨rfl, k2⟩
  have K2 := hide (K1.out.trans k2)
  clear k2
  go_wp2_with fail
  go_ret2
  exact ⟨rfl, K2.out⟩
end Go.Proofs.Ytmbgnekilgobaaa
