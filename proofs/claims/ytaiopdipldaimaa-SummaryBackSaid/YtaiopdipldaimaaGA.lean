/-
  The readers of a summary's bytes: Number of the reference, by its contract. No conditions beyond those of the statement. The readers of a summary's bytes: number of the program, by its contract. No conditions beyond those of the statement. The readers of a summary's bytes: a number that has a bound, in both packages. No conditions beyond those of the statement. The reference's reader: End, by its contract. No conditions beyond those of the statement. The readers of a summary's bytes: bytes as a string. No conditions beyond those of the statement. The readers of a summary's bytes: a text with its length, in both packages. No conditions beyond those of the statement. What the bytes of a summary say, in plain Lean. No conditions beyond those of the statement.
-/
import Derived.Test.YtaiopdipldaimaaVarintR
import Derived.Test.YtaiopdipldaimaaMem2
import Derived.OrdersHeld
import Derived.Deep.CutBlock
import Derived.Deep.RegionHeld3
import Derived.Laws.BytesArg
import Derived.Test.YtaiopdipldaimaaGJ
set_option linter.unusedVariables false
set_option linter.unusedSimpArgs false
namespace Go.Proofs.Ytaiopdipldaimaa
open Go.RowKit
open Vp
/-- a reader in memory: what is left to read, and the error -/
def IsR (w : World) (X T B : Nat) (L : List UInt8) (e : Int) : Prop :=
  ∃ (A : Option Addr) (n c : Nat), Blk w X T #[.slice A n c, .int .i64 e] ∧ Rd w B A 1 n (L.map by8) ∧ n ≤ c ∧ n ≤ 140737488351232
theorem IsR.kept {w w' : World} {X T B : Nat} {L : List UInt8} {e : Int} {S : Nat → Prop} (h : IsR w X T B L e) (k : Keeps S w w') (hX : ¬ S X) (hB : ∀ b, b < B → ¬ S b) : IsR w' X T B L e := by
  obtain ⟨A, n, c, h1, h2, h3⟩ := h
  exact ⟨A, n, c, h1.kept k hX, h2.kept k hB, h3⟩
/-- what a reader reads: the number, what is left, the error -/
def numP (L : List UInt8) (e : Int) : Int × List UInt8 × Int := if e = 0 then (((parse L).1 : Int), L.drop (parse L).2.1, ((parse L).2.2 : Int)) else (0, L, e)
set_option maxRecDepth 100000 in
theorem rnumber_any (w : World) (X T B : Nat) (L : List UInt8) (e : Int) (h : IsR w X T B L e) (hBX : B ≤ X) :
    Calls Try.prog 58 #[.pointer (some ⟨X, 0, none⟩)] w fun v w' => v = .returned (.int .u64 (numP L e).1) ∧ IsR w' X T B (numP L e).2.1 (numP L e).2.2 ∧ Keeps (· = X) w w' := by
  obtain ⟨A, n, c, hb, hr, hnc, hn⟩ := h
  have q0 := hb.cell 0
  have q1 := hb.cell 1
  have f0 := hb.frozen 0
  have f1 := hb.frozen 1
  have HB := hide hb
  have HR := hide hr
  have HLn : Hid (L.length = n) := hide (by simpa using hr.1)
  clear hb hr
  by_cases he : e = 0
  · subst he
    have hN : numP L 0 = (((parse L).1 : Int), L.drop (parse L).2.1, ((parse L).2.2 : Int)) := if_pos rfl
    rw [hN]
    obtain ⟨pv, hv⟩ : ∃ v : Int, v = ((parse L).1 : Int) := ⟨_, rfl⟩
    obtain ⟨pu, hu⟩ : ∃ v : Int, v = ((parse L).2.1 : Int) := ⟨_, rfl⟩
    obtain ⟨pe, hpe⟩ : ∃ v : Int, v = ((parse L).2.2 : Int) := ⟨_, rfl⟩
    have hu2 : (parse L).2.1 = pu.toNat := by omega
    have HO := hide (Varint.rread_any L A n c B w HR.out (by omega))
    have ho : Varint.out L = .tuple #[.int .u64 pv, .int .i64 pu, .int .i64 pe] := by rw [hv, hu, hpe]; rfl
    rw [ho] at HO
    rw [hu2, ← hv, ← hpe]
    clear hN ho
    by_cases hp : (parse L).2.2 = 0
    · obtain ⟨p1, p2, _, p4⟩ := parse_ok L hp
      obtain rfl : pe = 0 := by rw [hpe, hp]; rfl
      rw [HLn.out] at p2
      have hu0 : 0 ≤ pu := by omega
      have hu1 : pu ≤ n := by omega
      obtain ⟨A', hs, hr', _⟩ := sub_lo elem8 A n c .i64 pu hu0 hu1 hnc
      have HR' := hide (hr' _ _ _ HR.out)
      clear p1 p2 p4 hp hv hu hpe hu2 hr'
      go_enter Try.func58, Try.ntmps58
      go_wp2_with fail
      refine (HO.out).mono ?_
      rintro e' w' ⟨rfl, rfl⟩
      go_wp2_with fail
      go_ret
      refine ⟨rfl, ⟨A', n - pu.toNat, c - pu.toNat, HB.out.set 0 _, ?_, by omega, by omega⟩, Keeps.setCell (S := (· = X)) (Keeps.refl _ _) (.inl rfl) _⟩
      have := HR'.out
      rw [Nat.mul_one, ← List.map_drop] at this
      exact this.kept (Keeps.setCell (S := (· = X)) (p := ⟨X, 0, none⟩) (Keeps.refl _ _) (.inl rfl) _) (fun b hb e => by omega)
    · obtain ⟨p1, p2⟩ := parse_err L hp
      obtain rfl : pv = 0 := by rw [hv, p1]; rfl
      obtain rfl : pu = 0 := by rw [hu, p2]; rfl
      have hne : (pe == 0) = false := by simp; omega
      clear p1 p2 hp hv hu hpe hu2
      go_enter Try.func58, Try.ntmps58
      go_wp2_with fail
      refine (HO.out).mono ?_
      rintro e' w' ⟨rfl, rfl⟩
      go_wp2_with fail
      go_ret
      refine ⟨rfl, ⟨A, n, c, HB.out.set 1 _, ?_, by omega, by omega⟩, Keeps.setCell (S := (· = X)) (Keeps.refl _ _) (.inl rfl) _⟩
      have hR := HR.out.kept (Keeps.setCell (S := (· = X)) (p := ⟨X, 1, none⟩) (Keeps.refl _ _) (.inl rfl) (.int .i64 pe)) (fun b hb e => by omega)
      simpa using hR
  · have hN : numP L e = (0, L, e) := if_neg he
    rw [hN]
    have he' : (e == 0) = false := by simpa using he
    clear hN he
    go_enter Try.func58, Try.ntmps58
    go_wp2_with fail
    go_ret
    exact ⟨rfl, ⟨A, n, c, HB.out, HR.out, hnc, hn⟩, Keeps.refl _ _⟩
end Go.Proofs.Ytaiopdipldaimaa

set_option linter.unusedVariables false
set_option linter.unusedSimpArgs false
namespace Go.Proofs.Ytaiopdipldaimaa
open Go.RowKit
open Vp
set_option maxRecDepth 100000 in
theorem snumber_any (w : World) (X T B : Nat) (L : List UInt8) (e : Int) (h : IsR w X T B L e) (hBX : B ≤ X) :
    Calls Try.prog 55 #[.pointer (some ⟨X, 0, none⟩)] w fun v w' => v = .returned (.int .u64 (numP L e).1) ∧ IsR w' X T B (numP L e).2.1 (numP L e).2.2 ∧ Keeps (· = X) w w' := by
  obtain ⟨A, n, c, hb, hr, hnc, hn⟩ := h
  have q0 := hb.cell 0
  have q1 := hb.cell 1
  have f0 := hb.frozen 0
  have f1 := hb.frozen 1
  have HB := hide hb
  have HR := hide hr
  have HLn : Hid (L.length = n) := hide (by simpa using hr.1)
  clear hb hr
  by_cases he : e = 0
  · subst he
    have hN : numP L 0 = (((parse L).1 : Int), L.drop (parse L).2.1, ((parse L).2.2 : Int)) := if_pos rfl
    rw [hN]
    obtain ⟨pv, hv⟩ : ∃ v : Int, v = ((parse L).1 : Int) := ⟨_, rfl⟩
    obtain ⟨pu, hu⟩ : ∃ v : Int, v = ((parse L).2.1 : Int) := ⟨_, rfl⟩
    obtain ⟨pe, hpe⟩ : ∃ v : Int, v = ((parse L).2.2 : Int) := ⟨_, rfl⟩
    have hu2 : (parse L).2.1 = pu.toNat := by omega
    have HO := hide (Varint.read_any L A n c B w HR.out (by omega))
    have ho : Varint.out L = .tuple #[.int .u64 pv, .int .i64 pu, .int .i64 pe] := by rw [hv, hu, hpe]; rfl
    rw [ho] at HO
    rw [hu2, ← hv, ← hpe]
    clear hN ho
    have hub : (parse L).2.1 ≤ n := by
      by_cases hp : (parse L).2.2 = 0
      · have := (parse_ok L hp).2.1; rw [HLn.out] at this; exact this
      · have := (parse_err L hp).2; omega
    have hu0 : 0 ≤ pu := by omega
    have hu1 : pu ≤ n := by omega
    obtain ⟨A', hs, hr', _⟩ := sub_lo elem8 A n c .i64 pu hu0 hu1 hnc
    have HR' := hide (hr' _ _ _ HR.out)
    clear hub hv hu hpe hu2 hr'
    go_enter Try.func55, Try.ntmps55
    go_wp2_with fail
    refine (HO.out).mono ?_
    rintro e' w' ⟨rfl, rfl⟩
    trace "R4"
    go_upto_region 4 with fail
    trace "AT4"
    go_region
    go_wp2_with fail
    go_ret
    have kk : Keeps (· = X) w (((w.setCell ⟨X, 1, none⟩ (.int .i64 pe)).setCell ⟨X, 0, none⟩ (.slice A' (n - pu.toNat) (c - pu.toNat))).drew) := (Keeps.setCell (S := (· = X)) (p := ⟨X, 0, none⟩) (Keeps.setCell (S := (· = X)) (p := ⟨X, 1, none⟩) (Keeps.refl _ _) (.inl rfl) _) (.inl rfl) _).drew
    have hR := HR'.out
    rw [Nat.mul_one, ← List.map_drop] at hR
    exact ⟨rfl, ⟨A', n - pu.toNat, c - pu.toNat, ((HB.out.set 1 (.int .i64 pe)).set 0 (.slice A' (n - pu.toNat) (c - pu.toNat))).drew, hR.kept kk (fun b hb e => by omega), by omega, by omega⟩, kk⟩
  · have hN : numP L e = (0, L, e) := if_neg he
    rw [hN]
    have he' : (e == 0) = false := by simpa using he
    clear hN he
    go_enter Try.func55, Try.ntmps55
    go_wp2_with fail
    go_ret
    exact ⟨rfl, ⟨A, n, c, HB.out, HR.out, hnc, hn⟩, Keeps.refl _ _⟩
end Go.Proofs.Ytaiopdipldaimaa

set_option linter.unusedVariables false
set_option linter.unusedSimpArgs false
namespace Go.Proofs.Ytaiopdipldaimaa
open Go.RowKit
open Vp
/-- what a reader reads with a bound: the number (0 where there is an error), what is left, the error -/
def uptoP (L : List UInt8) (e most over : Int) : Int × List UInt8 × Int :=
  if (numP L e).2.2 = 0 then (if most < (numP L e).1 then (0, (numP L e).2.1, over) else ((numP L e).1, (numP L e).2.1, 0)) else (0, (numP L e).2.1, (numP L e).2.2)
section
set_option maxRecDepth 100000 in
theorem rupto_any (w : World) (X T B : Nat) (L : List UInt8) (e most over : Int) (h : IsR w X T B L e) (hBX : B ≤ X) (h0 : 0 ≤ most) (h1 : most < 9223372036854775808) (ho : over ≠ 0) :
    Calls Try.prog 59 #[.pointer (some ⟨X, 0, none⟩), .int .u64 most, .int .i64 over] w fun v w' => v = .returned (.int .i64 (uptoP L e most over).1) ∧ IsR w' X T B (uptoP L e most over).2.1 (uptoP L e most over).2.2 ∧ Keeps (· = X) w w' := by
  have HN := hide (rnumber_any w X T B L e h hBX)
  obtain ⟨v, hv⟩ : ∃ v, v = (numP L e).1 := ⟨_, rfl⟩
  obtain ⟨L1, hL⟩ : ∃ v, v = (numP L e).2.1 := ⟨_, rfl⟩
  obtain ⟨e1, he⟩ : ∃ v, v = (numP L e).2.2 := ⟨_, rfl⟩
  have hv0 : 0 ≤ v := by rw [hv]; unfold numP; split <;> simp <;> omega
  have wm : IntKind.u64.wrap most = most := by rw [IntKind.wrap_u64]; omega
  unfold uptoP
  rw [← hv, ← hL, ← he]
  rw [← hv, ← hL, ← he] at HN
  clear hv hL he h
  by_cases g : e1 = 0
  · subst g
    rw [if_pos rfl]
    by_cases g2 : most < v
    · rw [if_pos g2]
      have HO := hide ho
      clear ho
      go_enter Try.func59, Try.ntmps59
      go_wp2_with fail
      refine HN.out.mono ?_
      rintro e' w1 ⟨rfl, ⟨A, n, c, hb, hr, hnc, hn⟩, k1⟩
      have q1 := hb.cell 1
      have f1 := hb.frozen 1
      have g3 : (over == 0) = false := by simpa using HO.out
      have kk : Keeps (· = X) w1 (w1.setCell ⟨X, 1, none⟩ (.int .i64 over)) := Keeps.setCell (S := (· = X)) (p := ⟨X, 1, none⟩) (Keeps.refl _ _) (.inl rfl) _
      have HI : Hid (IsR (w1.setCell ⟨X, 1, none⟩ (.int .i64 over)) X T B L1 over ∧ Keeps (· = X) w (w1.setCell ⟨X, 1, none⟩ (.int .i64 over))) := hide ⟨⟨A, n, c, hb.set 1 (.int .i64 over), hr.kept kk (fun b hb e => by omega), hnc, hn⟩, k1.trans kk⟩
      clear hb hr k1 kk
      go_wp2_with fail
      go_ret
      exact ⟨rfl, HI.out⟩
    · rw [if_neg g2]
      have wv : IntKind.i64.wrap v = v := by rw [IntKind.wrap_i64]; omega
      go_enter Try.func59, Try.ntmps59
      go_wp2_with fail
      refine HN.out.mono ?_
      rintro e' w1 ⟨rfl, ⟨A, n, c, hb, hr, hnc, hn⟩, k1⟩
      have q1 := hb.cell 1
      have HI : Hid (IsR w1 X T B L1 0 ∧ Keeps (· = X) w w1) := hide ⟨⟨A, n, c, hb, hr, hnc, hn⟩, k1⟩
      clear hb hr k1
      go_wp2_with fail
      go_ret
      exact ⟨by simp [wv], HI.out⟩
  · rw [if_neg g]
    have g3 : (e1 == 0) = false := by simpa using g
    clear g
    go_enter Try.func59, Try.ntmps59
    go_wp2_with fail
    refine HN.out.mono ?_
    rintro e' w1 ⟨rfl, ⟨A, n, c, hb, hr, hnc, hn⟩, k1⟩
    have q1 := hb.cell 1
    have HI : Hid (IsR w1 X T B L1 e1 ∧ Keeps (· = X) w w1) := hide ⟨⟨A, n, c, hb, hr, hnc, hn⟩, k1⟩
    clear hb hr k1
    go_wp2_with fail
    go_ret
    exact ⟨rfl, HI.out⟩
set_option maxRecDepth 100000 in
theorem scount_any (w : World) (X T B : Nat) (L : List UInt8) (e most over : Int) (h : IsR w X T B L e) (hBX : B ≤ X) (h0 : 0 ≤ most) (h1 : most < 9223372036854775808) (ho : over ≠ 0) :
    Calls Try.prog 56 #[.pointer (some ⟨X, 0, none⟩), .int .i64 most, .int .i64 over] w fun v w' => v = .returned (.int .i64 (uptoP L e most over).1) ∧ IsR w' X T B (uptoP L e most over).2.1 (uptoP L e most over).2.2 ∧ Keeps (· = X) w w' := by
  have HN := hide (snumber_any w X T B L e h hBX)
  obtain ⟨v, hv⟩ : ∃ v, v = (numP L e).1 := ⟨_, rfl⟩
  obtain ⟨L1, hL⟩ : ∃ v, v = (numP L e).2.1 := ⟨_, rfl⟩
  obtain ⟨e1, he⟩ : ∃ v, v = (numP L e).2.2 := ⟨_, rfl⟩
  have hv0 : 0 ≤ v := by rw [hv]; unfold numP; split <;> simp <;> omega
  have wm : IntKind.u64.wrap most = most := by rw [IntKind.wrap_u64]; omega
  unfold uptoP
  rw [← hv, ← hL, ← he]
  rw [← hv, ← hL, ← he] at HN
  clear hv hL he h
  by_cases g : e1 = 0
  · subst g
    rw [if_pos rfl]
    by_cases g2 : most < v
    · rw [if_pos g2]
      have HO := hide ho
      clear ho
      go_enter Try.func56, Try.ntmps56
      go_wp2_with fail
      refine HN.out.mono ?_
      rintro e' w1 ⟨rfl, ⟨A, n, c, hb, hr, hnc, hn⟩, k1⟩
      have q1 := hb.cell 1
      have f1 := hb.frozen 1
      have g3 : (over == 0) = false := by simpa using HO.out
      have kk : Keeps (· = X) w1 (w1.setCell ⟨X, 1, none⟩ (.int .i64 over)) := Keeps.setCell (S := (· = X)) (p := ⟨X, 1, none⟩) (Keeps.refl _ _) (.inl rfl) _
      have HI : Hid (IsR (w1.setCell ⟨X, 1, none⟩ (.int .i64 over)) X T B L1 over ∧ Keeps (· = X) w (w1.setCell ⟨X, 1, none⟩ (.int .i64 over))) := hide ⟨⟨A, n, c, hb.set 1 (.int .i64 over), hr.kept kk (fun b hb e => by omega), hnc, hn⟩, k1.trans kk⟩
      clear hb hr k1 kk
      go_wp2_with fail
      go_ret
      exact ⟨rfl, HI.out⟩
    · rw [if_neg g2]
      have wv : IntKind.i64.wrap v = v := by rw [IntKind.wrap_i64]; omega
      go_enter Try.func56, Try.ntmps56
      go_wp2_with fail
      refine HN.out.mono ?_
      rintro e' w1 ⟨rfl, ⟨A, n, c, hb, hr, hnc, hn⟩, k1⟩
      have q1 := hb.cell 1
      have HI : Hid (IsR w1 X T B L1 0 ∧ Keeps (· = X) w w1) := hide ⟨⟨A, n, c, hb, hr, hnc, hn⟩, k1⟩
      clear hb hr k1
      go_wp2_with fail
      go_ret
      exact ⟨by simp [wv], HI.out⟩
  · rw [if_neg g]
    have g3 : (e1 == 0) = false := by simpa using g
    clear g
    go_enter Try.func56, Try.ntmps56
    go_wp2_with fail
    refine HN.out.mono ?_
    rintro e' w1 ⟨rfl, ⟨A, n, c, hb, hr, hnc, hn⟩, k1⟩
    have q1 := hb.cell 1
    have HI : Hid (IsR w1 X T B L1 e1 ∧ Keeps (· = X) w w1) := hide ⟨⟨A, n, c, hb, hr, hnc, hn⟩, k1⟩
    clear hb hr k1
    go_wp2_with fail
    go_ret
    exact ⟨rfl, HI.out⟩
end
end Go.Proofs.Ytaiopdipldaimaa

set_option linter.unusedVariables false
set_option linter.unusedSimpArgs false
namespace Go.Proofs.Ytaiopdipldaimaa
open Go.RowKit
open Vp
/-- the error at the end: more bytes are one -/
def endP (L : List UInt8) (e : Int) : Int := if e = 0 then (if 0 < L.length then 3 else 0) else e
set_option maxRecDepth 100000 in
theorem rend_any (w : World) (X T B : Nat) (L : List UInt8) (e : Int) (h : IsR w X T B L e) (hBX : B ≤ X) :
    Calls Try.prog 61 #[.pointer (some ⟨X, 0, none⟩)] w fun v w' => v = .returned (.int .i64 (endP L e)) ∧ Keeps (· = X) w w' := by
  obtain ⟨A, n, c, hb, hr, hnc, hn⟩ := h
  have hl : L.length = n := by simpa using hr.1
  have q0 := hb.cell 0
  have q1 := hb.cell 1
  have f1 := hb.frozen 1
  have kk : Keeps (· = X) w (w.setCell ⟨X, 1, none⟩ (.int .i64 3)) := Keeps.setCell (S := (· = X)) (p := ⟨X, 1, none⟩) (Keeps.refl _ _) (.inl rfl) _
  have d1 := (hb.set 1 (.int .i64 3)).cell 1
  have HK := hide kk
  clear kk
  unfold endP
  rw [hl]
  clear hl hb hr
  by_cases g : e = 0
  · subst g
    rw [if_pos rfl]
    by_cases g2 : 0 < n
    · rw [if_pos g2]
      have g3 : (0 : Int) < (n : Int) := by omega
      clear g2
      go_enter Try.func61, Try.ntmps61
      go_wp2_with fail
      go_ret
      exact ⟨rfl, HK.out⟩
    · rw [if_neg g2]
      obtain rfl : n = 0 := by omega
      clear g2
      go_enter Try.func61, Try.ntmps61
      go_wp2_with fail
      go_ret
      exact ⟨rfl, Keeps.refl _ _⟩
  · rw [if_neg g]
    have g3 : (e == 0) = false := by simpa using g
    clear g
    go_enter Try.func61, Try.ntmps61
    go_wp2_with fail
    go_ret
    exact ⟨rfl, Keeps.refl _ _⟩
end Go.Proofs.Ytaiopdipldaimaa

set_option linter.unusedVariables false
set_option linter.unusedSimpArgs false
namespace Go.Proofs.Ytaiopdipldaimaa
open Go.RowKit
open Vp
theorem conv_any {W : World} {B n c : Nat} {A : Option Addr} {L : List UInt8} (h : Rd W B A 1 n (L.map by8)) : (convert 46 9 (.slice A n c)).run Try.prog W = .ok (.string ⟨L.toArray⟩) W := by
  have hl : L.length = n := by simpa using h.1
  subst hl
  rcases A with _ | ⟨b, off, sp⟩
  · have h0 : L.length = 0 := by
      rcases Nat.eq_zero_or_pos L.length with h' | h'
      · exact h'
      · obtain ⟨b, off, hA, _⟩ := h.2 h'
        cases hA
    obtain rfl : L = [] := List.eq_nil_of_length_eq_zero h0
    exact run_convert_bytes_nil (P := Try.prog) W 46 5 Try.underlying46 Try.underlying5 _ _ 9 Try.underlying9
  · refine run_convert_bytes_back (P := Try.prog) W 46 9 5 ⟨b, off, sp⟩ c L Try.underlying46 Try.underlying5 Try.underlying9 ?_
    intro j hj
    obtain ⟨b', off', hA, _, hc⟩ := h.2 (by omega)
    cases hA
    have := hc j (by8 L[j]) (by simp [hj])
    rw [show (⟨b, off, none⟩ : Addr).add j = ⟨b, off + j, none⟩ from by
      simp [Addr.add]
      try (intro e; exact e ▸ rfl)]
    exact this
end Go.Proofs.Ytaiopdipldaimaa

set_option linter.unusedVariables false
set_option linter.unusedSimpArgs false
namespace Go.Proofs.Ytaiopdipldaimaa
open Go.RowKit
open Vp
/-- what a reader reads as a key: the bytes, what is left, the error -/
def textP (L : List UInt8) (e : Int) : List UInt8 × List UInt8 × Int :=
  if (uptoP L e 255 4).2.2 = 0 then (if (uptoP L e 255 4).2.1.length < (uptoP L e 255 4).1.toNat then ([], (uptoP L e 255 4).2.1, 2) else ((uptoP L e 255 4).2.1.take (uptoP L e 255 4).1.toNat, (uptoP L e 255 4).2.1.drop (uptoP L e 255 4).1.toNat, 0)) else ([], (uptoP L e 255 4).2.1, (uptoP L e 255 4).2.2)
theorem uptoP_bd (L : List UInt8) (e most over : Int) (h : 0 ≤ most) : 0 ≤ (uptoP L e most over).1 ∧ (uptoP L e most over).1 ≤ most := by
  have hv0 : 0 ≤ (numP L e).1 := by unfold numP; split <;> simp <;> omega
  unfold uptoP
  split
  · split
    · exact ⟨by simp, h⟩
    · exact ⟨hv0, by simp; omega⟩
  · exact ⟨by simp, h⟩
section
set_option maxRecDepth 100000 in
theorem rtext_any (w : World) (X T B : Nat) (L : List UInt8) (e : Int) (h : IsR w X T B L e) (hBX : B ≤ X) :
    Calls Try.prog 60 #[.pointer (some ⟨X, 0, none⟩), .int .u64 255] w fun v w' => v = .returned (.string ⟨(textP L e).1.toArray⟩) ∧ IsR w' X T B (textP L e).2.1 (textP L e).2.2 ∧ Keeps (· = X) w w' := by
  have HN := hide (rupto_any w X T B L e 255 4 h hBX (by omega) (by omega) (by omega))
  have hbd := uptoP_bd L e 255 4 (by omega)
  unfold textP
  obtain ⟨v, hv⟩ : ∃ v, v = (uptoP L e 255 4).1 := ⟨_, rfl⟩
  obtain ⟨L1, hL⟩ : ∃ v, v = (uptoP L e 255 4).2.1 := ⟨_, rfl⟩
  obtain ⟨e1, he⟩ : ∃ v, v = (uptoP L e 255 4).2.2 := ⟨_, rfl⟩
  rw [← hv, ← hL, ← he]
  rw [← hv, ← hL, ← he] at HN
  rw [← hv] at hbd
  clear hv hL he h
  obtain ⟨v0, v1⟩ := hbd
  by_cases g : e1 = 0
  · subst g
    rw [if_pos rfl]
    by_cases g2 : L1.length < v.toNat
    · rw [if_pos g2]
      have G2 := hide g2
      clear g2
      go_enter Try.func60, Try.ntmps60
      go_wp2_with fail
      refine HN.out.mono ?_
      rintro e' w1 ⟨rfl, ⟨A, n, c, hb, hr, hnc, hn⟩, k1⟩
      have hl : L1.length = n := by simpa using hr.1
      have g3 : (n : Int) < v := by have := G2.out; omega
      have q0 := hb.cell 0
      have q1 := hb.cell 1
      have f1 := hb.frozen 1
      have kk : Keeps (· = X) w1 (w1.setCell ⟨X, 1, none⟩ (.int .i64 2)) := Keeps.setCell (S := (· = X)) (p := ⟨X, 1, none⟩) (Keeps.refl _ _) (.inl rfl) _
      have HI : Hid (IsR (w1.setCell ⟨X, 1, none⟩ (.int .i64 2)) X T B L1 2 ∧ Keeps (· = X) w (w1.setCell ⟨X, 1, none⟩ (.int .i64 2))) := hide ⟨⟨A, n, c, hb.set 1 (.int .i64 2), hr.kept kk (fun b hb e => by omega), hnc, hn⟩, k1.trans kk⟩
      clear hb hr k1 kk hl
      go_wp2_with fail
      go_ret
      exact ⟨rfl, HI.out⟩
    · rw [if_neg g2]
      have G2 := hide g2
      clear g2
      go_enter Try.func60, Try.ntmps60
      go_wp2_with fail
      refine HN.out.mono ?_
      rintro e' w1 ⟨rfl, ⟨A, n, c, hb, hr, hnc, hn⟩, k1⟩
      have hl : L1.length = n := by simpa using hr.1
      have g3 : v ≤ (n : Int) := by have := G2.out; omega
      have g4 : ¬ (n : Int) < v := by omega
      have q0 := hb.cell 0
      have q1 := hb.cell 1
      have f0 := hb.frozen 0
      obtain ⟨Da, hsa, hra, _⟩ := sub_hi elem8 A n c .i64 v v0 g3 hnc
      obtain ⟨Db, hsb, hrb, _⟩ := sub_lo elem8 A n c .i64 v v0 g3 hnc
      have hR1 := hra _ _ _ hr
      have hR2 := hrb _ _ _ hr
      rw [Nat.mul_one, ← List.map_take] at hR1
      rw [Nat.mul_one, ← List.map_drop] at hR2
      have hcv := conv_any (c := c) hR1
      have kk : Keeps (· = X) w1 (w1.setCell ⟨X, 0, none⟩ (.slice Db (n - v.toNat) (c - v.toNat))) := Keeps.setCell (S := (· = X)) (p := ⟨X, 0, none⟩) (Keeps.refl _ _) (.inl rfl) _
      have HI : Hid (IsR (w1.setCell ⟨X, 0, none⟩ (.slice Db (n - v.toNat) (c - v.toNat))) X T B (L1.drop v.toNat) 0 ∧ Keeps (· = X) w (w1.setCell ⟨X, 0, none⟩ (.slice Db (n - v.toNat) (c - v.toNat)))) := hide ⟨⟨Db, n - v.toNat, c - v.toNat, hb.set 0 _, hR2.kept kk (fun b hb e => by omega), by omega, by omega⟩, k1.trans kk⟩
      clear hb hr k1 kk hl hra hrb hR1 hR2
      go_wp2_with fail
      go_ret
      exact ⟨rfl, HI.out⟩
  · rw [if_neg g]
    have g3 : (e1 == 0) = false := by simpa using g
    clear g
    go_enter Try.func60, Try.ntmps60
    go_wp2_with fail
    refine HN.out.mono ?_
    rintro e' w1 ⟨rfl, ⟨A, n, c, hb, hr, hnc, hn⟩, k1⟩
    have q1 := hb.cell 1
    have HI : Hid (IsR w1 X T B L1 e1 ∧ Keeps (· = X) w w1) := hide ⟨⟨A, n, c, hb, hr, hnc, hn⟩, k1⟩
    clear hb hr k1
    go_wp2_with fail
    go_ret
    exact ⟨rfl, HI.out⟩
set_option maxRecDepth 100000 in
theorem skey_any (w : World) (X T B : Nat) (L : List UInt8) (e : Int) (h : IsR w X T B L e) (hBX : B ≤ X) :
    Calls Try.prog 57 #[.pointer (some ⟨X, 0, none⟩)] w fun v w' => v = .returned (.string ⟨(textP L e).1.toArray⟩) ∧ IsR w' X T B (textP L e).2.1 (textP L e).2.2 ∧ Keeps (· = X) w w' := by
  have HN := hide (scount_any w X T B L e 255 4 h hBX (by omega) (by omega) (by omega))
  have hbd := uptoP_bd L e 255 4 (by omega)
  unfold textP
  obtain ⟨v, hv⟩ : ∃ v, v = (uptoP L e 255 4).1 := ⟨_, rfl⟩
  obtain ⟨L1, hL⟩ : ∃ v, v = (uptoP L e 255 4).2.1 := ⟨_, rfl⟩
  obtain ⟨e1, he⟩ : ∃ v, v = (uptoP L e 255 4).2.2 := ⟨_, rfl⟩
  rw [← hv, ← hL, ← he]
  rw [← hv, ← hL, ← he] at HN
  rw [← hv] at hbd
  clear hv hL he h
  obtain ⟨v0, v1⟩ := hbd
  by_cases g : e1 = 0
  · subst g
    rw [if_pos rfl]
    by_cases g2 : L1.length < v.toNat
    · rw [if_pos g2]
      have G2 := hide g2
      clear g2
      go_enter Try.func57, Try.ntmps57
      go_wp2_with fail
      refine HN.out.mono ?_
      rintro e' w1 ⟨rfl, ⟨A, n, c, hb, hr, hnc, hn⟩, k1⟩
      have hl : L1.length = n := by simpa using hr.1
      have g3 : (n : Int) < v := by have := G2.out; omega
      have q0 := hb.cell 0
      have q1 := hb.cell 1
      have f1 := hb.frozen 1
      have kk : Keeps (· = X) w1 (w1.setCell ⟨X, 1, none⟩ (.int .i64 2)) := Keeps.setCell (S := (· = X)) (p := ⟨X, 1, none⟩) (Keeps.refl _ _) (.inl rfl) _
      have HI : Hid (IsR (w1.setCell ⟨X, 1, none⟩ (.int .i64 2)) X T B L1 2 ∧ Keeps (· = X) w (w1.setCell ⟨X, 1, none⟩ (.int .i64 2))) := hide ⟨⟨A, n, c, hb.set 1 (.int .i64 2), hr.kept kk (fun b hb e => by omega), hnc, hn⟩, k1.trans kk⟩
      clear hb hr k1 kk hl
      go_wp2_with fail
      go_ret
      exact ⟨rfl, HI.out⟩
    · rw [if_neg g2]
      have G2 := hide g2
      clear g2
      go_enter Try.func57, Try.ntmps57
      go_wp2_with fail
      refine HN.out.mono ?_
      rintro e' w1 ⟨rfl, ⟨A, n, c, hb, hr, hnc, hn⟩, k1⟩
      have hl : L1.length = n := by simpa using hr.1
      have g3 : v ≤ (n : Int) := by have := G2.out; omega
      have g4 : ¬ (n : Int) < v := by omega
      have q0 := hb.cell 0
      have q1 := hb.cell 1
      have f0 := hb.frozen 0
      obtain ⟨Da, hsa, hra, _⟩ := sub_hi elem8 A n c .i64 v v0 g3 hnc
      obtain ⟨Db, hsb, hrb, _⟩ := sub_lo elem8 A n c .i64 v v0 g3 hnc
      have hR1 := hra _ _ _ hr
      have hR2 := hrb _ _ _ hr
      rw [Nat.mul_one, ← List.map_take] at hR1
      rw [Nat.mul_one, ← List.map_drop] at hR2
      have hcv := conv_any (c := c) hR1
      have kk : Keeps (· = X) w1 (w1.setCell ⟨X, 0, none⟩ (.slice Db (n - v.toNat) (c - v.toNat))) := Keeps.setCell (S := (· = X)) (p := ⟨X, 0, none⟩) (Keeps.refl _ _) (.inl rfl) _
      have HI : Hid (IsR (w1.setCell ⟨X, 0, none⟩ (.slice Db (n - v.toNat) (c - v.toNat))) X T B (L1.drop v.toNat) 0 ∧ Keeps (· = X) w (w1.setCell ⟨X, 0, none⟩ (.slice Db (n - v.toNat) (c - v.toNat)))) := hide ⟨⟨Db, n - v.toNat, c - v.toNat, hb.set 0 _, hR2.kept kk (fun b hb e => by omega), by omega, by omega⟩, k1.trans kk⟩
      clear hb hr k1 kk hl hra hrb hR1 hR2
      go_wp2_with fail
      go_ret
      exact ⟨rfl, HI.out⟩
  · rw [if_neg g]
    have g3 : (e1 == 0) = false := by simpa using g
    clear g
    go_enter Try.func57, Try.ntmps57
    go_wp2_with fail
    refine HN.out.mono ?_
    rintro e' w1 ⟨rfl, ⟨A, n, c, hb, hr, hnc, hn⟩, k1⟩
    have q1 := hb.cell 1
    have HI : Hid (IsR w1 X T B L1 e1 ∧ Keeps (· = X) w w1) := hide ⟨⟨A, n, c, hb, hr, hnc, hn⟩, k1⟩
    clear hb hr k1
    go_wp2_with fail
    go_ret
    exact ⟨rfl, HI.out⟩
end
end Go.Proofs.Ytaiopdipldaimaa

set_option linter.unusedVariables false
set_option linter.unusedSimpArgs false
namespace Go.Proofs.Ytaiopdipldaimaa
open Go.RowKit
/-- an entry: its key, its own weight, its slack -/
def entP (L : List UInt8) (e : Int) : Ln × List UInt8 × Int :=
  let k := textP L e
  let o := numP k.2.1 k.2.2
  let s := numP o.2.1 o.2.2
  (⟨⟨k.1.toArray⟩, o.1, s.1⟩, s.2.1, s.2.2)
def entsP : Nat → List UInt8 → Int → List Ln × List UInt8 × Int
  | 0, L, e => ([], L, e)
  | n + 1, L, e => let x := entP L e; let r := entsP n x.2.1 x.2.2; (x.1 :: r.1, r.2)
def numsP : Nat → List UInt8 → Int → List Int × List UInt8 × Int
  | 0, L, e => ([], L, e)
  | n + 1, L, e => let x := numP L e; let r := numsP n x.2.1 x.2.2; (x.1 :: r.1, r.2)
/-- a row: its length, its numbers -/
def drowP (L : List UInt8) (e : Int) : List Int × List UInt8 × Int :=
  let k := uptoP L e 256 7
  numsP k.1.toNat k.2.1 k.2.2
def drowsP : Nat → List UInt8 → Int → List (List Int) × List UInt8 × Int
  | 0, L, e => ([], L, e)
  | n + 1, L, e => let x := drowP L e; let r := drowsP n x.2.1 x.2.2; (x.1 :: r.1, r.2)
/-- the summary that the bytes say, and the error -/
structure Dec where
  tot : Int
  un : Int
  l : List Ln
  R : List (List Int)
  err : Int
def decP (L : List UInt8) : Dec :=
  let t := numP L 0
  let u := numP t.2.1 t.2.2
  let n := uptoP u.2.1 u.2.2 96 7
  let l := entsP n.1.toNat n.2.1 n.2.2
  let m := uptoP l.2.1 l.2.2 4 7
  let R := drowsP m.1.toNat m.2.1 m.2.2
  let e := endP R.2.1 R.2.2
  if e = 0 then ⟨t.1, u.1, l.1, R.1, 0⟩ else ⟨0, 0, [], [], e⟩
theorem entsP_snoc : ∀ (n : Nat) (L : List UInt8) (e : Int), entsP (n + 1) L e = ((entsP n L e).1 ++ [(entP (entsP n L e).2.1 (entsP n L e).2.2).1], (entP (entsP n L e).2.1 (entsP n L e).2.2).2)
  | 0, L, e => rfl
  | n + 1, L, e => by
    have h := entsP_snoc n (entP L e).2.1 (entP L e).2.2
    show ((entP L e).1 :: (entsP (n + 1) (entP L e).2.1 (entP L e).2.2).1, (entsP (n + 1) (entP L e).2.1 (entP L e).2.2).2) = _
    rw [h]; rfl
theorem numsP_snoc : ∀ (n : Nat) (L : List UInt8) (e : Int), numsP (n + 1) L e = ((numsP n L e).1 ++ [(numP (numsP n L e).2.1 (numsP n L e).2.2).1], (numP (numsP n L e).2.1 (numsP n L e).2.2).2)
  | 0, L, e => rfl
  | n + 1, L, e => by
    have h := numsP_snoc n (numP L e).2.1 (numP L e).2.2
    show ((numP L e).1 :: (numsP (n + 1) (numP L e).2.1 (numP L e).2.2).1, (numsP (n + 1) (numP L e).2.1 (numP L e).2.2).2) = _
    rw [h]; rfl
theorem drowsP_snoc : ∀ (n : Nat) (L : List UInt8) (e : Int), drowsP (n + 1) L e = ((drowsP n L e).1 ++ [(drowP (drowsP n L e).2.1 (drowsP n L e).2.2).1], (drowP (drowsP n L e).2.1 (drowsP n L e).2.2).2)
  | 0, L, e => rfl
  | n + 1, L, e => by
    have h := drowsP_snoc n (drowP L e).2.1 (drowP L e).2.2
    show ((drowP L e).1 :: (drowsP (n + 1) (drowP L e).2.1 (drowP L e).2.2).1, (drowsP (n + 1) (drowP L e).2.1 (drowP L e).2.2).2) = _
    rw [h]; rfl
end Go.Proofs.Ytaiopdipldaimaa
