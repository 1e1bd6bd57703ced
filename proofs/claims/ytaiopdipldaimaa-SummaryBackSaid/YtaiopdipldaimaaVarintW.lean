/-
  Writing a number and its size (layer 2): varint.Append, varint.Size and the reference's, by contracts.
-/
import Derived.Test.YtaiopdipldaimaaMem
import Derived.Test.YtaiopdipldaimaaVp
set_option linter.unusedVariables false
set_option linter.unusedSimpArgs false
namespace Go.Proofs.Ytaiopdipldaimaa
open Go.RowKit
namespace Varint
open Vp

theorem or128 : ∀ b : Fin 256, (b.val ||| 128) = b.val % 128 + 128 := by decide +kernel
theorem low_or (z : Int) (hz : 0 ≤ z) : bits .or .u8 (z % 256) 128 = (((z.toNat % 128 + 128).toUInt8.toNat : Nat) : Int) := by
  rw [u8_toNat _ (by omega)]
  have h := u8_or_nat (z.toNat % 256) 128 (by omega) (by omega)
  rw [show ((z.toNat % 256 : Nat) : Int) = z % 256 from by omega] at h
  refine h.trans ?_
  have := or128 ⟨z.toNat % 256, by omega⟩
  simp only at this
  rw [this]
  omega

/-- A function has made a new slice of bytes that reads as l. -/
def MadeBytes (w : World) (l : List UInt8) (e : Ending) (w' : World) : Prop :=
  ∃ (A : Option Addr) (n c : Nat), n = l.length ∧ e = .returned (.slice A n c) ∧ Own w' w.heap.size 5 1 A n c (l.map by8) ∧ Keeps (fun _ => False) w w'

set_option maxRecDepth 100000 in
theorem append_any (l : List UInt8) (A : Option Addr) (m c B : Nat) (w : World) (hr : Rd w B A 1 m (l.map by8)) (hB : B ≤ w.heap.size) (hm : m ≤ 140737488351232) (x : Int) (x0 : 0 ≤ x) (x1 : x < 18446744073709551616) :
    Calls Try.prog 53 #[.slice A m c, .int .u64 x] w (MadeBytes w (l ++ enc x.toNat)) := by
  have hl : l.length = m := by simpa using hr.1
  have hnew := Own.new w w.heap.size 5 #[] 0 1 (Nat.le_refl _) (by simp [maxLen]) rfl
  have hrn : Rd (w.alloc (.cells #[] 5)) B A 1 m (l.map by8) := hr.kept ((Keeps.refl (fun _ => False) w).alloc _) (fun _ _ h => h)
  have hkn : Keeps (fun _ => False) w (w.alloc (.cells #[] 5)) := (Keeps.refl _ w).alloc _
  go_enter Try.func53, Try.ntmps53
  go_wp2_with (at_builtin; refine wpList_app _ elem8 rfl (.tmp 6) (.tmp 7) rfl w.heap.size _ rfl hnew B _ rfl hrn (by8_one l) (by simp [maxLen]; omega) (by omega) (by simp) ?_; intro A1 c1 w1 hown1 hk1 hA1)
  have hX : Hid (x.toNat < 128 ^ (9 + 1)) := by show x.toNat < 128 ^ (9 + 1); omega
  have O1 := hide (show Own w1 w.heap.size 5 1 A1 m c1 (l.map by8) by simpa using hown1)
  have K1 := hide (hkn.step hk1 (fun k h => by rw [inB_some]; omega))
  clear hown1 hk1 hA1 hnew hrn hkn
  go_loopw [1, 5] (fun nv ov wr => ∃ (y : Int) (f : Nat) (pre : List UInt8) (A' : Option Addr) (k c' : Nat), nv = .int .u64 y ∧ ov = .slice A' k c' ∧ k ≤ m + 9 - f ∧ f ≤ 9 ∧ 0 ≤ y ∧ y < 18446744073709551616 ∧ Hid (y.toNat < 128 ^ (f + 1)) ∧ Hid (pre ++ encF f y.toNat = l ++ enc x.toNat ∧ k = pre.length) ∧
      Own wr w.heap.size 5 1 A' k c' (pre.map by8) ∧ Keeps (fun _ => False) w wr) (fun nv _ _ => (intOf nv).toNat)
  case atStart => exact ⟨x, 9, l, A1, m, c1, rfl, rfl, by omega, by omega, x0, x1, hX, ⟨rfl, hl.symm⟩, O1.out, K1.out⟩
  case round =>
    obtain ⟨y, f, pre, A', k, c', rfl, rfl, hk, hf, hy0, hy, HY, HP, hown, hkeep⟩ := hrel
    clear hX
    by_cases h128 : 128 ≤ y
    · have e1 := low_or y hy0
      have hstep : Hid (1 ≤ f ∧ encF f y.toNat = (y.toNat % 128 + 128).toUInt8 :: encF (f - 1) (y / 128).toNat ∧ (y / 128).toNat < 128 ^ (f - 1 + 1)) := by
        have h := HY.out
        obtain ⟨g, rfl⟩ : ∃ g, f = g + 1 := by
          cases f with
          | zero => omega
          | succ g => exact ⟨g, rfl⟩
        have e2 : (y / 128).toNat = y.toNat / 128 := by omega
        refine ⟨by omega, ?_, ?_⟩
        · rw [encF, if_neg (by omega), e2]; rfl
        · rw [e2]; rw [Nat.pow_succ] at h; simp only [Nat.add_sub_cancel]; omega
      obtain ⟨q, hq⟩ : ∃ q : UInt8, q = (y.toNat % 128 + 128).toUInt8 := ⟨_, rfl⟩
      rw [← hq] at e1 hstep
      clear hq
      have hkeep' := hide hkeep
      have hown' := hide hown
      clear hkeep hown
      go_wp2_with (at_builtin; (refine wpList_app _ elem8 rfl (.tmp 11) (.tmp 15) rfl w.heap.size (pre.map by8) rfl (by exact hown'.out.kept ((Keeps.refl (fun _ => False) _).alloc _) (fun _ _ h => h)) _ [by8 q] rfl (by exact Blk.rd (xs := [by8 q]) (Blk.new _ _ _) rfl) (by8_one [q]) (by simp [maxLen]; omega) (by omega) (by have := hkeep'.out.size; simp; omega) ?_); intro A2 c2 w2 hown2 hk2 hA2)
      have K2 := hide (hkeep'.out.step (((Keeps.refl (fun k => w.heap.size ≤ k) wr).alloc _).step hk2 (fun k _ h => by
        have := (hown'.out.inB h).1; omega)) (fun k hk h => by omega))
      have O2 := hide hown2
      clear hown2 hk2 hA2 hkeep' hown' e1
      go_wp2_with fail
      go_roundw
      case rel =>
        have h1 := hstep.out
        have h2 := HP.out
        refine ⟨y / 128, f - 1, pre ++ [q], A2, k + 1, c2, by go_num, rfl, by omega, by omega, by omega, by omega, h1.2.2, ⟨?_, by simp; omega⟩, by simpa using O2.out, K2.out⟩
        rw [← h2.1, h1.2.1]; simp
      case measure => simp [intOf]; omega
    · have e1 : IntKind.u8.wrap y = ((y.toNat.toUInt8.toNat : Nat) : Int) := by rw [u8_toNat _ (by omega), IntKind.wrap_u8]; omega
      have hfin : Hid (encF f y.toNat = [y.toNat.toUInt8]) := by
        show encF f y.toNat = _
        cases f with
        | zero => rfl
        | succ f => rw [encF, if_pos (by omega)]
      obtain ⟨q, hq⟩ : ∃ q : UInt8, q = y.toNat.toUInt8 := ⟨_, rfl⟩
      rw [← hq] at e1 hfin
      clear hq
      have hkeep' := hide hkeep
      have hown' := hide hown
      clear hkeep hown
      go_wp2_with (at_builtin; (refine wpList_app _ elem8 rfl (.tmp 19) (.tmp 22) rfl w.heap.size (pre.map by8) rfl (by exact hown'.out.kept ((Keeps.refl (fun _ => False) _).alloc _) (fun _ _ h => h)) _ [by8 q] rfl (by exact Blk.rd (xs := [by8 q]) (Blk.new _ _ _) rfl) (by8_one [q]) (by simp [maxLen]; omega) (by omega) (by have := hkeep'.out.size; simp; omega) ?_); intro A2 c2 w2 hown2 hk2 hA2)
      have K2 := hide (hkeep'.out.step (((Keeps.refl (fun k => w.heap.size ≤ k) wr).alloc _).step hk2 (fun k _ h => by
        have := (hown'.out.inB h).1; omega)) (fun k hk h => by omega))
      have O2 := hide hown2
      clear hown2 hk2 hA2 hkeep' hown' e1
      go_wp2_with fail
      go_ret
      have h2 := HP.out
      refine ⟨A2, k + 1, c2, ?_, rfl, ?_, K2.out⟩
      · rw [← h2.1, hfin.out]; simp; omega
      · rw [← h2.1, hfin.out]; simpa using O2.out
theorem low_add (z : Int) (hz : 0 ≤ z) : IntKind.u8.wrap (z % 128 + 128) = (((z.toNat % 128 + 128).toUInt8.toNat : Nat) : Int) := by
  rw [u8_toNat _ (by omega), IntKind.wrap_u8]; omega

set_option maxRecDepth 100000 in
theorem rappend_any (l : List UInt8) (A : Option Addr) (m c B : Nat) (w : World) (hr : Rd w B A 1 m (l.map by8)) (hB : B ≤ w.heap.size) (hm : m ≤ 140737488351232) (x : Int) (x0 : 0 ≤ x) (x1 : x < 18446744073709551616) :
    Calls Try.prog 54 #[.slice A m c, .int .u64 x] w (MadeBytes w (l ++ enc x.toNat)) := by
  have hl : l.length = m := by simpa using hr.1
  have hnew := Own.new w w.heap.size 5 #[] 0 1 (Nat.le_refl _) (by simp [maxLen]) rfl
  have hrn : Rd (w.alloc (.cells #[] 5)) B A 1 m (l.map by8) := hr.kept ((Keeps.refl (fun _ => False) w).alloc _) (fun _ _ h => h)
  have hkn : Keeps (fun _ => False) w (w.alloc (.cells #[] 5)) := (Keeps.refl _ w).alloc _
  go_enter Try.func54, Try.ntmps54
  go_wp2_with (at_builtin; refine wpList_app _ elem8 rfl (.tmp 6) (.tmp 7) rfl w.heap.size _ rfl hnew B _ rfl hrn (by8_one l) (by simp [maxLen]; omega) (by omega) (by simp) ?_; intro A1 c1 w1 hown1 hk1 hA1)
  have hX : Hid (x.toNat < 128 ^ (9 + 1)) := by show x.toNat < 128 ^ (9 + 1); omega
  have O1 := hide (show Own w1 w.heap.size 5 1 A1 m c1 (l.map by8) by simpa using hown1)
  have K1 := hide (hkn.step hk1 (fun k h => by rw [inB_some]; omega))
  clear hown1 hk1 hA1 hnew hrn hkn
  go_loopw [1, 5] (fun nv ov wr => ∃ (y : Int) (f : Nat) (pre : List UInt8) (A' : Option Addr) (k c' : Nat), nv = .int .u64 y ∧ ov = .slice A' k c' ∧ k ≤ m + 9 - f ∧ f ≤ 9 ∧ 0 ≤ y ∧ y < 18446744073709551616 ∧ Hid (y.toNat < 128 ^ (f + 1)) ∧ Hid (pre ++ encF f y.toNat = l ++ enc x.toNat ∧ k = pre.length) ∧
      Own wr w.heap.size 5 1 A' k c' (pre.map by8) ∧ Keeps (fun _ => False) w wr) (fun nv _ _ => (intOf nv).toNat)
  case atStart => exact ⟨x, 9, l, A1, m, c1, rfl, rfl, by omega, by omega, x0, x1, hX, ⟨rfl, hl.symm⟩, O1.out, K1.out⟩
  case round =>
    obtain ⟨y, f, pre, A', k, c', rfl, rfl, hk, hf, hy0, hy, HY, HP, hown, hkeep⟩ := hrel
    clear hX
    by_cases h128 : 128 ≤ y
    · have e1 := low_add y hy0
      have hstep : Hid (1 ≤ f ∧ encF f y.toNat = (y.toNat % 128 + 128).toUInt8 :: encF (f - 1) (y / 128).toNat ∧ (y / 128).toNat < 128 ^ (f - 1 + 1)) := by
        have h := HY.out
        obtain ⟨g, rfl⟩ : ∃ g, f = g + 1 := by
          cases f with
          | zero => omega
          | succ g => exact ⟨g, rfl⟩
        have e2 : (y / 128).toNat = y.toNat / 128 := by omega
        refine ⟨by omega, ?_, ?_⟩
        · rw [encF, if_neg (by omega), e2]; rfl
        · rw [e2]; rw [Nat.pow_succ] at h; simp only [Nat.add_sub_cancel]; omega
      obtain ⟨q, hq⟩ : ∃ q : UInt8, q = (y.toNat % 128 + 128).toUInt8 := ⟨_, rfl⟩
      rw [← hq] at e1 hstep
      clear hq
      have hkeep' := hide hkeep
      have hown' := hide hown
      clear hkeep hown
      go_wp2_with (at_builtin; (refine wpList_app _ elem8 rfl (.tmp 11) (.tmp 16) rfl w.heap.size (pre.map by8) rfl (by exact hown'.out.kept ((Keeps.refl (fun _ => False) _).alloc _) (fun _ _ h => h)) _ [by8 q] rfl (by exact Blk.rd (xs := [by8 q]) (Blk.new _ _ _) rfl) (by8_one [q]) (by simp [maxLen]; omega) (by omega) (by have := hkeep'.out.size; simp; omega) ?_); intro A2 c2 w2 hown2 hk2 hA2)
      have K2 := hide (hkeep'.out.step (((Keeps.refl (fun k => w.heap.size ≤ k) wr).alloc _).step hk2 (fun k _ h => by
        have := (hown'.out.inB h).1; omega)) (fun k hk h => by omega))
      have O2 := hide hown2
      clear hown2 hk2 hA2 hkeep' hown' e1
      go_wp2_with fail
      go_roundw
      case rel =>
        have h1 := hstep.out
        have h2 := HP.out
        refine ⟨y / 128, f - 1, pre ++ [q], A2, k + 1, c2, by go_num, rfl, by omega, by omega, by omega, by omega, h1.2.2, ⟨?_, by simp; omega⟩, by simpa using O2.out, K2.out⟩
        rw [← h2.1, h1.2.1]; simp
      case measure => simp [intOf]; omega
    · have e1 : IntKind.u8.wrap y = ((y.toNat.toUInt8.toNat : Nat) : Int) := by rw [u8_toNat _ (by omega), IntKind.wrap_u8]; omega
      have hfin : Hid (encF f y.toNat = [y.toNat.toUInt8]) := by
        show encF f y.toNat = _
        cases f with
        | zero => rfl
        | succ f => rw [encF, if_pos (by omega)]
      obtain ⟨q, hq⟩ : ∃ q : UInt8, q = y.toNat.toUInt8 := ⟨_, rfl⟩
      rw [← hq] at e1 hfin
      clear hq
      have hkeep' := hide hkeep
      have hown' := hide hown
      clear hkeep hown
      go_wp2_with (at_builtin; (refine wpList_app _ elem8 rfl (.tmp 20) (.tmp 23) rfl w.heap.size (pre.map by8) rfl (by exact hown'.out.kept ((Keeps.refl (fun _ => False) _).alloc _) (fun _ _ h => h)) _ [by8 q] rfl (by exact Blk.rd (xs := [by8 q]) (Blk.new _ _ _) rfl) (by8_one [q]) (by simp [maxLen]; omega) (by omega) (by have := hkeep'.out.size; simp; omega) ?_); intro A2 c2 w2 hown2 hk2 hA2)
      have K2 := hide (hkeep'.out.step (((Keeps.refl (fun k => w.heap.size ≤ k) wr).alloc _).step hk2 (fun k _ h => by
        have := (hown'.out.inB h).1; omega)) (fun k hk h => by omega))
      have O2 := hide hown2
      clear hown2 hk2 hA2 hkeep' hown' e1
      go_wp2_with fail
      go_ret
      have h2 := HP.out
      refine ⟨A2, k + 1, c2, ?_, rfl, ?_, K2.out⟩
      · rw [← h2.1, hfin.out]; simp; omega
      · rw [← h2.1, hfin.out]; simpa using O2.out

end Varint
end Go.Proofs.Ytaiopdipldaimaa
