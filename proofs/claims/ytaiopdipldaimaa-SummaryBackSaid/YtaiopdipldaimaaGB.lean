/-
  The readers of a summary's bytes, by what they read; rows that the call lays. No conditions beyond those of the statement. The reference's Decode: the loop over a row's numbers. No conditions beyond those of the statement. The reference's Decode: the loop over a row's numbers. No conditions beyond those of the statement. The reference's Decode: the loop over the entries. No conditions beyond those of the statement. The reference's Decode: the loop over the rows. No conditions beyond those of the statement. The reference's Decode, by its contract. No conditions beyond those of the statement. summary.Decode: the loop over the entries. No conditions beyond those of the statement. summary.Decode: the loops over the rows and over a row's numbers. No conditions beyond those of the statement. summary.Decode, by its contract. No conditions beyond those of the statement.
-/
import Derived.Test.YtaiopdipldaimaaGA
import Derived.Test.YtaiopdipldaimaaZa
import Derived.Test.YtaiopdipldaimaaMem4
import Derived.Deep.CutBlock
import Derived.RegionTactic
set_option linter.unusedVariables false
set_option linter.unusedSimpArgs false
namespace Go.Proofs.Ytaiopdipldaimaa
open Go.RowKit Vp
theorem rtext_eq (w : World) (X T B : Nat) (L : List UInt8) (e : Int) (h : IsR w X T B L e) (hBX : B ≤ X) {k : List UInt8} {L1 : List UInt8} {e1 : Int} (hk : textP L e = (k, L1, e1)) :
    Calls Try.prog 60 #[.pointer (some ⟨X, 0, none⟩), .int .u64 255] w fun v w' => v = .returned (.string ⟨k.toArray⟩) ∧ IsR w' X T B L1 e1 ∧ Keeps (· = X) w w' := by
  have := rtext_any w X T B L e h hBX
  rw [hk] at this
  exact this
theorem rnum_eq (w : World) (X T B : Nat) (L : List UInt8) (e : Int) (h : IsR w X T B L e) (hBX : B ≤ X) {k : Int} {L1 : List UInt8} {e1 : Int} (hk : numP L e = (k, L1, e1)) :
    Calls Try.prog 58 #[.pointer (some ⟨X, 0, none⟩)] w fun v w' => v = .returned (.int .u64 k) ∧ IsR w' X T B L1 e1 ∧ Keeps (· = X) w w' := by
  have := rnumber_any w X T B L e h hBX
  rw [hk] at this
  exact this
theorem rupto_eq (w : World) (X T B : Nat) (L : List UInt8) (e most over : Int) (h : IsR w X T B L e) (hBX : B ≤ X) (h0 : 0 ≤ most) (h1 : most < 9223372036854775808) (ho : over ≠ 0) {k : Nat} {L1 : List UInt8} {e1 : Int} (hk : uptoP L e most over = ((k : Int), L1, e1)) :
    Calls Try.prog 59 #[.pointer (some ⟨X, 0, none⟩), .int .u64 most, .int .i64 over] w fun v w' => v = .returned (.int .i64 (k : Int)) ∧ IsR w' X T B L1 e1 ∧ Keeps (· = X) w w' := by
  have := rupto_any w X T B L e most over h hBX h0 h1 ho
  rw [hk] at this
  exact this
theorem stext_eq (w : World) (X T B : Nat) (L : List UInt8) (e : Int) (h : IsR w X T B L e) (hBX : B ≤ X) {k : List UInt8} {L1 : List UInt8} {e1 : Int} (hk : textP L e = (k, L1, e1)) :
    Calls Try.prog 57 #[.pointer (some ⟨X, 0, none⟩)] w fun v w' => v = .returned (.string ⟨k.toArray⟩) ∧ IsR w' X T B L1 e1 ∧ Keeps (· = X) w w' := by
  have := skey_any w X T B L e h hBX
  rw [hk] at this
  exact this
theorem snum_eq (w : World) (X T B : Nat) (L : List UInt8) (e : Int) (h : IsR w X T B L e) (hBX : B ≤ X) {k : Int} {L1 : List UInt8} {e1 : Int} (hk : numP L e = (k, L1, e1)) :
    Calls Try.prog 55 #[.pointer (some ⟨X, 0, none⟩)] w fun v w' => v = .returned (.int .u64 k) ∧ IsR w' X T B L1 e1 ∧ Keeps (· = X) w w' := by
  have := snumber_any w X T B L e h hBX
  rw [hk] at this
  exact this
theorem supto_eq (w : World) (X T B : Nat) (L : List UInt8) (e most over : Int) (h : IsR w X T B L e) (hBX : B ≤ X) (h0 : 0 ≤ most) (h1 : most < 9223372036854775808) (ho : over ≠ 0) {k : Nat} {L1 : List UInt8} {e1 : Int} (hk : uptoP L e most over = ((k : Int), L1, e1)) :
    Calls Try.prog 56 #[.pointer (some ⟨X, 0, none⟩), .int .i64 most, .int .i64 over] w fun v w' => v = .returned (.int .i64 (k : Int)) ∧ IsR w' X T B L1 e1 ∧ Keeps (· = X) w w' := by
  have := scount_any w X T B L e most over h hBX h0 h1 ho
  rw [hk] at this
  exact this
/-- a bounded number as a natural number -/
theorem uptoP_nat (L : List UInt8) (e most over : Int) (h : 0 ≤ most) : ∃ (k : Nat) (L1 : List UInt8) (e1 : Int), uptoP L e most over = ((k : Int), L1, e1) ∧ (k : Int) ≤ most := by
  have h1 := uptoP_bd L e most over h
  refine ⟨(uptoP L e most over).1.toNat, (uptoP L e most over).2.1, (uptoP L e most over).2.2, ?_, by omega⟩
  rw [Int.toNat_of_nonneg h1.1]
theorem numP_U (L : List UInt8) (e : Int) : U (numP L e).1 := by
  unfold numP
  split
  · by_cases h : (parse L).2.2 = 0
    · have := (parse_ok L h).2.2.2
      exact ⟨by simp, by simp; omega⟩
    · have := (parse_err L h).1
      exact ⟨by simp, by simp; omega⟩
  · exact ⟨by simp, by simp⟩
theorem numsP_U : ∀ (n : Nat) (L : List UInt8) (e : Int), ∀ z ∈ (numsP n L e).1, U z
  | 0, L, e, z, hz => by cases hz
  | n + 1, L, e, z, hz => by
    have hz' : z ∈ (numP L e).1 :: (numsP n (numP L e).2.1 (numP L e).2.2).1 := hz
    rcases List.mem_cons.1 hz' with h | h
    · subst h; exact numP_U L e
    · exact numsP_U n _ _ z h
theorem numsP_len : ∀ (n : Nat) (L : List UInt8) (e : Int), (numsP n L e).1.length = n
  | 0, L, e => rfl
  | n + 1, L, e => by show (_ :: (numsP n _ _).1).length = _; rw [List.length_cons, numsP_len n]
theorem entsP_len : ∀ (n : Nat) (L : List UInt8) (e : Int), (entsP n L e).1.length = n
  | 0, L, e => rfl
  | n + 1, L, e => by show (_ :: (entsP n _ _).1).length = _; rw [List.length_cons, entsP_len n]
theorem drowsP_len : ∀ (n : Nat) (L : List UInt8) (e : Int), (drowsP n L e).1.length = n
  | 0, L, e => rfl
  | n + 1, L, e => by show (_ :: (drowsP n _ _).1).length = _; rw [List.length_cons, drowsP_len n]
theorem textP_len (L : List UInt8) (e : Int) : (textP L e).1.length ≤ 255 := by
  have h := uptoP_bd L e 255 4 (by omega)
  unfold textP
  split
  · split
    · simp
    · simp; omega
  · simp
theorem entsP_bd : ∀ (n : Nat) (L : List UInt8) (e : Int), ∀ x ∈ (entsP n L e).1, U x.lo ∧ U x.hi ∧ x.key.size ≤ 255
  | 0, L, e, z, hz => by cases hz
  | n + 1, L, e, z, hz => by
    have hz' : z ∈ (entP L e).1 :: (entsP n (entP L e).2.1 (entP L e).2.2).1 := hz
    rcases List.mem_cons.1 hz' with h | h
    · subst h; exact ⟨numP_U _ _, numP_U _ _, by have := textP_len L e; simpa [entP, ByteArray.size] using this⟩
    · exact entsP_bd n _ _ z h
theorem drowsP_bd : ∀ (n : Nat) (L : List UInt8) (e : Int), ∀ r ∈ (drowsP n L e).1, (∀ z ∈ r, U z) ∧ r.length ≤ 256
  | 0, L, e, z, hz => by cases hz
  | n + 1, L, e, z, hz => by
    have hz' : z ∈ (drowP L e).1 :: (drowsP n (drowP L e).2.1 (drowP L e).2.2).1 := hz
    rcases List.mem_cons.1 hz' with h | h
    · subst h
      refine ⟨numsP_U _ _ _, ?_⟩
      show (numsP _ _ _).1.length ≤ 256
      rw [numsP_len]
      have := uptoP_bd L e 256 7 (by omega)
      omega
    · exact drowsP_bd n _ _ z h
namespace sp21
/-- one more row, that lies above all that was there -/
theorem RwS.snoc {w0 w w2 w' : World} {R R' : Option Addr} {cR c' : Nat} {Q : List Rw} {S : Nat → Prop} (h : RwS w w0.heap.size R cR Q) (k : Keeps S w w2) (hS : ∀ b, S b → b < w0.heap.size) {base : Nat} (hb : w.heap.size ≤ base) (hw : w0.heap.size ≤ w.heap.size) {A : Option Addr} {c : Nat} {zs : List Int}
    (ho : Own w2 base 24 1 A zs.length c (zs.map (.int .u64))) (hU : ∀ z ∈ zs, U z) (k2 : Keeps (inB R) w2 w') (hr : Own w' w0.heap.size 31 1 R' (Q.length + 1) c' (Q.map rwV ++ [.slice A zs.length c])) : RwS w' w0.heap.size R' c' (Q ++ [(A, zs.length, c, zs)]) := by
  have hq := h.kept k (fun b hb1 _ hs => by have := hS b hs; omega)
  refine ⟨?_, fun q hq' => ?_, ?_⟩
  · rw [show Q.map rwV ++ [Value.slice A zs.length c] = (Q ++ [(A, zs.length, c, zs)]).map rwV from by simp [rwV]] at hr
    simpa using hr
  · rcases List.mem_append.1 hq' with h1 | h1
    · obtain ⟨q1, q2⟩ := hq.rows q h1
      exact ⟨q1.kept k2 (fun b hb e => q1.ne hq.own (by decide) hb e), q2⟩
    · obtain rfl : q = _ := by simpa using h1
      exact ⟨(ho.base_le (by omega)).kept k2 (fun b hb e => ho.ne hq.own (by decide) hb e), hU⟩
  · rw [List.pairwise_append]
    refine ⟨h.apart, List.pairwise_singleton _ _, fun a ha c hc k hk hk' => ?_⟩
    obtain rfl : c = _ := by simpa using hc
    have h1 := ((h.rows a ha).1.inB hk).2
    have h2 := (ho.inB hk').1
    omega
end sp21
/-- what a Decode has laid: its entries and rows in memory of its own -/
def DecV (w0 : World) (D : Dec) (v : Value) (w' : World) : Prop := ∃ A cA R cR Q, v = smV D.tot A D.l.length cA D.un R Q.length cR ∧ Own w' w0.heap.size 99 3 A D.l.length cA (lnCs D.l) ∧ sp21.RwS w' w0.heap.size R cR Q ∧ Q.map (fun q => q.2.2.2) = D.R
/-- the state of the loop over the entries: i of them are read -/
def EntSt (w0 : World) (X T B X5 : Nat) (L : List UInt8) (e tot un : Int) (i : Nat) (A : Option Addr) (cp : Nat) (wr : World) : Prop :=
  Own wr w0.heap.size 99 3 A i cp (lnCs (entsP i L e).1) ∧ IsR wr X T B (entsP i L e).2.1 (entsP i L e).2.2 ∧ Blk wr X5 45 #[.int .u64 tot, .slice A i cp, .int .u64 un, .slice none 0 0] ∧ Keeps (fun b => b = X ∨ b = X5) w0 wr
/-- the state of the loop over the rows -/
def DRowSt (w0 : World) (X T B X5 : Nat) (L : List UInt8) (e tot un : Int) (vE : Value) (i : Nat) (R : Option Addr) (cR : Nat) (Q : List sp21.Rw) (wr : World) : Prop :=
  sp21.RwS wr w0.heap.size R cR Q ∧ Q.length = i ∧ Q.map (fun q => q.2.2.2) = (drowsP i L e).1 ∧ IsR wr X T B (drowsP i L e).2.1 (drowsP i L e).2.2 ∧ Blk wr X5 45 #[.int .u64 tot, vE, .int .u64 un, .slice R i cR] ∧ Keeps (fun b => b = X ∨ b = X5) w0 wr
theorem EntSt.zero {w0 : World} {X T B X5 : Nat} {L : List UInt8} {e tot un : Int} (hR : IsR w0 X T B L e) (hb : Blk w0 X5 45 #[.int .u64 tot, .slice none 0 0, .int .u64 un, .slice none 0 0]) : EntSt w0 X T B X5 L e tot un 0 none 0 w0 :=
  ⟨Own.nil _ _ _ _, hR, hb, Keeps.refl _ _⟩
theorem DRowSt.zero {w0 : World} {X T B X5 : Nat} {L : List UInt8} {e tot un : Int} {vE : Value} (hR : IsR w0 X T B L e) (hb : Blk w0 X5 45 #[.int .u64 tot, vE, .int .u64 un, .slice none 0 0]) : DRowSt w0 X T B X5 L e tot un vE 0 none 0 [] w0 :=
  ⟨⟨Own.nil _ _ _ _, fun q hq => (by cases hq), List.Pairwise.nil⟩, rfl, rfl, hR, hb, Keeps.refl _ _⟩
/-- one entry more -/
theorem entsP_next {i : Nat} {L L1 L2 L3 L4 : List UInt8} {e e1 e2 e3 e4 ow sl : Int} {l : List Ln} {kb : List UInt8} (hE : entsP i L e = (l, L1, e1)) (hk : textP L1 e1 = (kb, L2, e2)) (ho : numP L2 e2 = (ow, L3, e3)) (hs : numP L3 e3 = (sl, L4, e4)) :
    entsP (i + 1) L e = (l ++ [⟨⟨kb.toArray⟩, ow, sl⟩], L4, e4) := by
  rw [entsP_snoc, hE]
  simp only [entP, hk, ho, hs]
theorem drowsP_next {i K : Nat} {L L1 L2 L3 : List UInt8} {e e1 e2 e3 : Int} {R : List (List Int)} {zs : List Int} (hE : drowsP i L e = (R, L1, e1)) (hk : uptoP L1 e1 256 7 = ((K : Int), L2, e2)) (hn : numsP K L2 e2 = (zs, L3, e3)) :
    drowsP (i + 1) L e = (R ++ [zs], L3, e3) := by
  rw [drowsP_snoc, hE]
  simp only [drowP, hk, Int.toNat_natCast, hn]
end Go.Proofs.Ytaiopdipldaimaa

set_option linter.unusedVariables false
set_option linter.unusedSimpArgs false
namespace Go.Proofs.Ytaiopdipldaimaa
open Go.RowKit
namespace rdec
def loops : Code → List Code
  | .loop c => c :: loops c
  | .seq a b => loops a ++ loops b
  | .block _ c => loops c
  | .scope c => loops c
  | .cond _ a b => loops a ++ loops b
  | _ => []
noncomputable def lp3 : Code := ((loops Try.f30.body.get!)[2]?.getD .skip)
def LoopPostK (k : Nat) (W : Act → World → Prop) : Exit → Act → World → Prop
  | .exit i, a, w => i = k ∧ W a w
  | _, _, _ => False
/-- i numbers of the row are read -/
def NumSt (w0 : World) (X T B : Nat) (L : List UInt8) (e : Int) (i : Nat) (A : Option Addr) (cp : Nat) (wr : World) : Prop :=
  Own wr w0.heap.size 24 1 A i cp ((numsP i L e).1.map (.int .u64)) ∧ IsR wr X T B (numsP i L e).2.1 (numsP i L e).2.2 ∧ Keeps (· = X) w0 wr
end rdec
end Go.Proofs.Ytaiopdipldaimaa

set_option linter.unusedVariables false
set_option linter.unusedSimpArgs false
namespace Go.Proofs.Ytaiopdipldaimaa
open Go.RowKit
theorem elemZ : ElemOf Try.prog 31 24 1 8 := ElemOf.mk' (z := .int .u64 0) Try.underlying31 (by kernel_rfl) rfl (by omega)
namespace rdec
set_option maxRecDepth 1000000 in
set_option maxHeartbeats 4000000 in
theorem loop3 (w0 : World) (X T B : Nat) (L : List UInt8) (e : Int) (K : Nat) (hK : K ≤ 256) (hBX : B ≤ X) (hX0 : X < w0.heap.size) (hR : IsR w0 X T B L e) (s0 s1 s2 s3 s5 s6 s7 s8 s11 s12 s13 s14 s15 s16 s17 s18 s19 s20 s21 s22 s23 s24 s25 s26 s27 s28 s29 s30 s31 s32 s33 s34 s35 s36 s37 s38 s39 s40 s41 s42 s43 s44 s45 s46 s47 s48 s49 s50 s51 s52 s53 s54 s55 s56 s57 s58 s59 s60 s61 s62 s63 s64 s65 s66 s67 s68 s69 s70 s71 : Value) :
    Code.wp Try.prog (Code.loop lp3) (LoopPostK 4 fun a' w' => ∃ A cp, NumSt w0 X T B L e K A cp w' ∧ (∃ u10 u50 u51 u52 u53 u54 u55 u56 u57 u58 : Value, a' = ⟨#[s0, s1, s2, s3, .pointer (some ⟨X, 0, none⟩), s5, s6, s7, s8, .slice A K cp, u10, s11, s12, s13, s14, s15, s16, s17, s18, s19, s20, s21, s22, s23, s24, s25, s26, s27, s28, s29, s30, s31, s32, s33, s34, s35, s36, s37, s38, s39, s40, s41, s42, s43, s44, s45, s46, s47, s48, s49, u50, u51, u52, u53, u54, u55, u56, u57, u58, s59, s60, s61, s62, s63, s64, s65, s66, s67, s68, s69, s70, s71], []⟩)) ⟨#[s0, s1, s2, s3, .pointer (some ⟨X, 0, none⟩), s5, s6, s7, s8, .slice none 0 0, .int .i64 (K : Int), s11, s12, s13, s14, s15, s16, s17, s18, s19, s20, s21, s22, s23, s24, s25, s26, s27, s28, s29, s30, s31, s32, s33, s34, s35, s36, s37, s38, s39, s40, s41, s42, s43, s44, s45, s46, s47, s48, s49, s50, s51, s52, s53, s54, s55, s56, s57, s58, s59, s60, s61, s62, s63, s64, s65, s66, s67, s68, s69, s70, s71], []⟩ w0 := by
  have HR := hide hR
  clear hR
  conv => arg 2; arg 1; whnf
  dsimp only
  go_loopw [9, 10] (fun rv iv wr => ∃ (i : Nat) (A : Option Addr) (cp : Nat), i ≤ K ∧ rv = .slice A i cp ∧ iv = .int .i64 ((K - i : Nat) : Int) ∧ Hid (NumSt w0 X T B L e i A cp wr)) (fun _ iv _ => (intOf iv).toNat)
  case atStart => exact ⟨0, none, 0, by omega, rfl, rfl, hide ⟨Own.nil _ _ _ _, HR.out, Keeps.refl _ _⟩⟩
  case round =>
    obtain ⟨i, A, cp, hi, rfl, rfl, HS⟩ := hrel
    by_cases hlt : i < K
    · have h0 : (0 : Int) < ((K - i : Nat) : Int) := by omega
      have HNm := hide (rnumber_any _ X T B _ _ HS.out.2.1 hBX)
      go_wp2_with fail
      trace "NUMBER"
      refine HNm.out.mono ?_
      rintro e' w1 ⟨rfl, ir, k1⟩
      obtain ⟨ho, hir, hk⟩ := HS.out
      have o1 := ho.kept k1 (fun b hb e => by have := ho.inB hb; omega)
      obtain ⟨z, hz⟩ : ∃ z, z = (numP (numsP i L e).2.1 (numsP i L e).2.2).1 := ⟨_, rfl⟩
      rw [← hz]
      have HZ := hide hz
      have kA := (Keeps.refl (fun _ => False) w1).alloc (.cells #[.int .u64 z] 24)
      have OA := hide (o1.kept kA (fun _ _ h => h))
      have RA := hide (show Rd (w1.alloc (.cells #[.int .u64 z] 24)) (w1.alloc (.cells #[.int .u64 z] 24)).heap.size (some ⟨w1.heap.size, 0, none⟩) 1 1 [.int .u64 z] from (Blk.new w1 24 #[.int .u64 z]).rd (xs := [.int .u64 z]) (n := 1) (sz := 1) rfl)
      have IA := hide (ir.kept kA (fun h => h) (fun _ _ h => h))
      have KA := hide ((hk.trans k1).step0 kA)
      have hw1 : w0.heap.size ≤ w1.heap.size := by have := hk.size; have := k1.size; omega
      clear ho hir hk k1 o1 ir kA hz HNm
      trace "APPEND"
      go_wp2_with (at_builtin; refine wpList_app _ elemZ rfl (.tmp 54) (.tmp 57) rfl w0.heap.size ((numsP i L e).1.map (.int .u64)) rfl OA.out _ (m := 1) [.int .u64 z] rfl RA.out (by simp [Value.oneCell']) (by simp only [maxLen]; omega) (by omega) (by simp; omega) ?_; intro A7 c7 w7 o7 k7 _; have O7 := hide o7; have I7 := hide (IA.out.kept k7 (fun h => by have := (OA.out.inB h).1; omega) (fun b hb h => by have := (OA.out.inB h).1; omega)); have K7 := hide (KA.out.step k7 (fun k hk h => by have := (OA.out.inB h).1; omega)); clear o7 k7)
      trace "ROUND"
      have HN : Hid (NumSt w0 X T B L e (i + 1) A7 c7 w7) := hide (by
        unfold NumSt
        rw [numsP_snoc]
        refine ⟨?_, I7.out, K7.out⟩
        rw [← HZ.out] 
        simpa [List.map_append] using O7.out)
      clear OA RA IA KA O7 I7 K7 HZ
      go_roundw
      case rel => exact ⟨i + 1, A7, c7, by omega, rfl, by go_num, HN⟩
      case measure => simp [intOf]; omega
    · obtain rfl : i = K := by omega
      have h0 : ¬ (0 : Int) < ((i - i : Nat) : Int) := by omega
      go_wp2_with fail
      trace "END"
      exact ⟨rfl, A, cp, HS.out, _, _, _, _, _, _, _, _, _, _, rfl⟩
end rdec
end Go.Proofs.Ytaiopdipldaimaa

set_option linter.unusedVariables false
set_option linter.unusedSimpArgs false
namespace Go.Proofs.Ytaiopdipldaimaa
open Go.RowKit Vp
namespace rdec
noncomputable def lp1 : Code := ((loops Try.f30.body.get!)[0]?.getD .skip)
set_option maxRecDepth 1000000 in
set_option maxHeartbeats 4000000 in
theorem loop1 (w0 : World) (X T B X5 : Nat) (L : List UInt8) (e tot un : Int) (K : Nat) (hK : K ≤ 96) (hBX : B ≤ X) (hX5 : X ≠ X5) (hB5 : B ≤ X5) (hR : IsR w0 X T B L e)
    (hb : Blk w0 X5 45 #[.int .u64 tot, .slice none 0 0, .int .u64 un, .slice none 0 0]) (s0 s1 s2 s3 s7 s8 s9 s10 s11 s12 s13 s14 s15 s16 s17 s18 s19 s20 s21 s22 s23 s24 s25 s26 s27 s28 s29 s30 s31 s32 s33 s34 s35 s36 s37 s38 s39 s40 s41 s42 s43 s44 s45 s46 s47 s48 s49 s50 s51 s52 s53 s54 s55 s56 s57 s58 s59 s60 s61 s62 s63 s64 s65 s66 s67 s68 s69 s70 s71 : Value) :
    Code.wp Try.prog (Code.loop lp1) (LoopPostK 0 fun a' w' => ∃ A cp, EntSt w0 X T B X5 L e tot un K A cp w' ∧ (∃ u6 u7 u23 u24 u25 u26 u27 u28 u29 u30 u31 u32 u33 u34 u35 u36 u37 u38 u39 u40 u41 : Value, a' = ⟨#[s0, s1, s2, s3, .pointer (some ⟨X, 0, none⟩), .pointer (some ⟨X5, 0, none⟩), u6, u7, s8, s9, s10, s11, s12, s13, s14, s15, s16, s17, s18, s19, s20, s21, s22, u23, u24, u25, u26, u27, u28, u29, u30, u31, u32, u33, u34, u35, u36, u37, u38, u39, u40, u41, s42, s43, s44, s45, s46, s47, s48, s49, s50, s51, s52, s53, s54, s55, s56, s57, s58, s59, s60, s61, s62, s63, s64, s65, s66, s67, s68, s69, s70, s71], []⟩)) ⟨#[s0, s1, s2, s3, .pointer (some ⟨X, 0, none⟩), .pointer (some ⟨X5, 0, none⟩), .int .i64 (K : Int), s7, s8, s9, s10, s11, s12, s13, s14, s15, s16, s17, s18, s19, s20, s21, s22, s23, s24, s25, s26, s27, s28, s29, s30, s31, s32, s33, s34, s35, s36, s37, s38, s39, s40, s41, s42, s43, s44, s45, s46, s47, s48, s49, s50, s51, s52, s53, s54, s55, s56, s57, s58, s59, s60, s61, s62, s63, s64, s65, s66, s67, s68, s69, s70, s71], []⟩ w0 := by
  have hX0 : X < w0.heap.size := by obtain ⟨_, _, _, h1, _⟩ := hR; exact h1.lt
  have hX50 := hb.lt
  have HI := hide (EntSt.zero (tot := tot) (un := un) hR hb)
  clear hR hb
  conv => arg 2; arg 1; whnf
  dsimp only
  go_loopw [6] (fun iv wr => ∃ (i : Nat) (A : Option Addr) (cp : Nat), i ≤ K ∧ iv = .int .i64 ((K - i : Nat) : Int) ∧ Hid (EntSt w0 X T B X5 L e tot un i A cp wr)) (fun iv _ => (intOf iv).toNat)
  case atStart => exact ⟨0, none, 0, by omega, rfl, HI⟩
  case round =>
    obtain ⟨i, A, cp, hi, rfl, HS⟩ := hrel
    by_cases hlt : i < K
    · have h0 : (0 : Int) < ((K - i : Nat) : Int) := by omega
      obtain ⟨l, L1, e1, hE⟩ : ∃ l L1 e1, entsP i L e = (l, L1, e1) := ⟨_, _, _, rfl⟩
      obtain ⟨kb, L2, e2, hk⟩ : ∃ l L2 e2, textP L1 e1 = (l, L2, e2) := ⟨_, _, _, rfl⟩
      obtain ⟨ow, L3, e3, ho⟩ : ∃ l L3 e3, numP L2 e2 = (l, L3, e3) := ⟨_, _, _, rfl⟩
      obtain ⟨sl, L4, e4, hs⟩ : ∃ l L4 e4, numP L3 e3 = (l, L4, e4) := ⟨_, _, _, rfl⟩
      have HN1 := hide (entsP_next hE hk ho hs)
      have HLl : Hid (l.length = i) := hide (by have := entsP_len i L e; rw [hE] at this; exact this)
      obtain ⟨OW, ir, BL, KK⟩ : Own wr w0.heap.size 99 3 A i cp (lnCs l) ∧ IsR wr X T B L1 e1 ∧ Blk wr X5 45 #[.int .u64 tot, .slice A i cp, .int .u64 un, .slice none 0 0] ∧ Keeps (fun b => b = X ∨ b = X5) w0 wr := by
        have h := HS.out
        unfold EntSt at h
        rw [hE] at h
        exact h
      have hwr := KK.size
      have kA := (Keeps.refl (fun _ => False) wr).alloc (.cells #[.string ⟨#[]⟩, .int .u64 0, .int .u64 0] 99)
      have GA := hide (Blk.new wr 99 #[.string ⟨#[]⟩, .int .u64 0, .int .u64 0])
      have HOw := hide OW
      have OW := hide (OW.kept kA (fun _ _ h => h))
      have IR := hide (ir.kept kA (fun h => h) (fun _ _ h => h))
      have BL := hide (BL.kept kA (fun h => h))
      have KK := hide (KK.step kA (fun _ _ h => h.elim))
      have HK := hide hk
      have HO := hide ho
      have HSl := hide hs
      have hAo : ∀ b, inB A b → b < wr.heap.size := fun b hb => (HOw.out.inB hb).2
      clear kA ir hk ho hs hE HS HI HOw
      go_upto_region 9 with fail
      trace "R9"
      generalize wr.alloc _ = wa at *
      generalize wr.heap.size = gx at *
      have hgx := GA.out.lt
      go_wp2_with fail
      trace "TEXT"
      refine (rtext_eq _ X T B L1 e1 IR.out hBX HK.out).mono ?_
      rintro e' w1 ⟨rfl, ir, k1⟩
      have hz1 := k1.size
      have GA := hide (GA.out.kept k1 (by omega))
      have OW := hide (OW.out.kept k1 (fun b hb e => by have := OW.out.inB hb; omega))
      have BL := hide (BL.out.kept k1 (by omega))
      have KK := hide (KK.out.step k1 (fun b hb e => .inl e))
      have kB : Keeps (· = gx) w1 (w1.setCell ⟨gx, 0, none⟩ (.string ⟨kb.toArray⟩)) := Keeps.setCell (S := (· = gx)) (p := ⟨gx, 0, none⟩) (Keeps.refl _ _) (.inl rfl) _
      have hzB := kB.size
      have f0 := GA.out.frozen 0
      have q0 := GA.out.cell 0
      have GB := hide (GA.out.set 0 (.string ⟨kb.toArray⟩))
      have OW := hide (OW.out.kept kB (fun b hb e => by have := hAo b hb; omega))
      have IR := hide (ir.kept kB (by omega) (fun b hb => by omega))
      have BL := hide (BL.out.kept kB (by omega))
      have KK := hide (KK.out.step kB (fun b hb e => by omega))
      clear k1 kB ir GA
      go_upto_region 10 with fail
      clear f0 q0
      generalize w1.setCell _ _ = wb at *
      have GA := GB
      clear GB
      trace "R10"
      go_wp2_with fail
      refine (rnum_eq _ X T B L2 e2 IR.out hBX HO.out).mono ?_
      rintro e' w1 ⟨rfl, ir, k1⟩
      have hz1 := k1.size
      have GA := hide (GA.out.kept k1 (by omega))
      have OW := hide (OW.out.kept k1 (fun b hb e => by have := OW.out.inB hb; omega))
      have BL := hide (BL.out.kept k1 (by omega))
      have KK := hide (KK.out.step k1 (fun b hb e => .inl e))
      have kB : Keeps (· = gx) w1 (w1.setCell ⟨gx, 1, none⟩ (.int .u64 ow)) := Keeps.setCell (S := (· = gx)) (p := ⟨gx, 1, none⟩) (Keeps.refl _ _) (.inl rfl) _
      have hzB := kB.size
      have f0 := GA.out.frozen 1
      have q0 := GA.out.cell 1
      have GB := hide (GA.out.set 1 (.int .u64 ow))
      have OW := hide (OW.out.kept kB (fun b hb e => by have := hAo b hb; omega))
      have IR := hide (ir.kept kB (by omega) (fun b hb => by omega))
      have BL := hide (BL.out.kept kB (by omega))
      have KK := hide (KK.out.step kB (fun b hb e => by omega))
      clear k1 kB ir GA
      go_upto_region 11 with fail
      clear f0 q0
      generalize w1.setCell _ _ = wc at *
      have GA := GB
      clear GB
      trace "R11"
      go_wp2_with fail
      refine (rnum_eq _ X T B L3 e3 IR.out hBX HSl.out).mono ?_
      rintro e' w1 ⟨rfl, ir, k1⟩
      have hz1 := k1.size
      have GA := hide (GA.out.kept k1 (by omega))
      have OW := hide (OW.out.kept k1 (fun b hb e => by have := OW.out.inB hb; omega))
      have BL := hide (BL.out.kept k1 (by omega))
      have KK := hide (KK.out.step k1 (fun b hb e => .inl e))
      have kB : Keeps (· = gx) w1 (w1.setCell ⟨gx, 2, none⟩ (.int .u64 sl)) := Keeps.setCell (S := (· = gx)) (p := ⟨gx, 2, none⟩) (Keeps.refl _ _) (.inl rfl) _
      have hzB := kB.size
      have f0 := GA.out.frozen 2
      have q0 := GA.out.cell 2
      have GB := hide (GA.out.set 2 (.int .u64 sl))
      have OW := hide (OW.out.kept kB (fun b hb e => by have := hAo b hb; omega))
      have IR := hide (ir.kept kB (by omega) (fun b hb => by omega))
      have BL := hide (BL.out.kept kB (by omega))
      have KK := hide (KK.out.step kB (fun b hb e => by omega))
      clear k1 kB ir GA
      go_upto_region 12 with fail
      clear f0 q0
      generalize w1.setCell _ _ = wd at *
      have GA := GB
      clear GB
      trace "R12"
      have q0 : wd.cell? ⟨gx, 0, none⟩ = some (.string ⟨kb.toArray⟩) := GA.out.cell 0
      have q1 : wd.cell? ⟨gx, 1, none⟩ = some (.int .u64 ow) := GA.out.cell 1
      have q2 : wd.cell? ⟨gx, 2, none⟩ = some (.int .u64 sl) := GA.out.cell 2
      have p1 : wd.cell? ⟨X5, 1, none⟩ = some (.slice A i cp) := BL.out.cell 1
      have kA := (Keeps.refl (fun _ => False) wd).alloc (.cells #[.string ⟨kb.toArray⟩, .int .u64 ow, .int .u64 sl] 99)
      have HOA := hide (OW.out.kept kA (fun _ _ h => h))
      have HRA := hide (show Rd (wd.alloc (.cells #[.string ⟨kb.toArray⟩, .int .u64 ow, .int .u64 sl] 99)) (wd.alloc (.cells #[.string ⟨kb.toArray⟩, .int .u64 ow, .int .u64 sl] 99)).heap.size (some ⟨wd.heap.size, 0, none⟩) 3 1 (lnCs [⟨⟨kb.toArray⟩, ow, sl⟩]) from (Blk.new wd 99 #[.string ⟨kb.toArray⟩, .int .u64 ow, .int .u64 sl]).rd (xs := [.string ⟨kb.toArray⟩, .int .u64 ow, .int .u64 sl]) (n := 1) (sz := 3) rfl)
      have HBA := hide (BL.out.kept kA (fun h => h))
      have HIA := hide (IR.out.kept kA (fun h => h) (fun _ _ h => h))
      have HKA := hide (KK.out.step kA (fun _ _ h => h.elim))
      have hszW := KK.out.size
      clear OW KK kA BL IR GA
      go_upto_region 7 with (at_builtin; refine wpList_app _ elemE rfl (.tmp 37) (.tmp 39) rfl w0.heap.size (lnCs l) rfl HOA.out _ (m := 1) (lnCs [⟨⟨kb.toArray⟩, ow, sl⟩]) rfl HRA.out (lnCs_one _) (by simp only [maxLen]; omega) (by omega) (by simp; omega) ?_; intro A7 c7 w7 o7 k7 _; rw [← lnCs_app] at o7; have O7 := hide o7; have hX27 : ∀ b, inB A b → w0.heap.size ≤ b := (fun b hb => (HOA.out.inB hb).1); have B7 := hide (HBA.out.kept k7 (fun h => by have := hX27 _ h; omega)); have I7 := hide (HIA.out.kept k7 (fun h => by have := hX27 _ h; omega) (fun b hb h => by have := hX27 _ h; omega)); have K7 := hide (HKA.out.step k7 (fun k hk h => by have := hX27 _ h; omega)); have q14 := B7.out.cell 1; have f14 := B7.out.frozen 1; clear o7 k7)
      clear hX27 HOA HRA HBA HIA HKA
      have kS : Keeps (· = X5) w7 (w7.setCell ⟨X5, 1, none⟩ (.slice A7 (i + 1) c7)) := Keeps.setCell (S := (· = X5)) (p := ⟨X5, 1, none⟩) (Keeps.refl _ _) (.inl rfl) _
      trace "R7"
      have HN : Hid (EntSt w0 X T B X5 L e tot un (i + 1) A7 c7 (w7.setCell ⟨X5, 1, none⟩ (.slice A7 (i + 1) c7))) := hide (by
        unfold EntSt
        rw [HN1.out]
        exact ⟨O7.out.kept kS (fun b hb e => by have := (O7.out.inB hb).1; omega), I7.out.kept kS (by omega) (fun b hb => by omega), B7.out.set 1 _, K7.out.step kS (fun b hb e => Or.inr e)⟩)
      clear kS O7 I7 B7 K7 q14 f14 p1 q0 q1 q2
      generalize w7.setCell _ _ = w8 at *
      have e5 : IntKind.i64.wrap (((K - i : Nat) : Int) - 1) = ((K - i : Nat) : Int) - 1 := IntWalk.i64_in _ (by omega)
      go_wp2_with fail
      trace "ROUND"
      go_roundw
      case rel => exact ⟨i + 1, A7, c7, by omega, by go_num, HN⟩
      case measure => simp [intOf]; omega
    · obtain rfl : i = K := by omega
      have h0 : ¬ (0 : Int) < ((i - i : Nat) : Int) := by omega
      go_wp2_with fail
      trace "END"
      first | exact ⟨rfl, ⟨A, cp, HS.out⟩, _, _, _, _, _, _, _, _, _, _, _, _, _, _, _, _, _, _, _, _, _, rfl⟩ | exact ⟨rfl, A, cp, HS.out, _, _, _, _, _, _, _, _, _, _, _, _, _, _, _, _, _, _, _, _, _, rfl⟩
end rdec
end Go.Proofs.Ytaiopdipldaimaa

set_option linter.unusedVariables false
set_option linter.unusedSimpArgs false
namespace Go.Proofs.Ytaiopdipldaimaa
open Go.RowKit Vp
namespace rdec
noncomputable def lp2 : Code := ((loops Try.f30.body.get!)[1]?.getD .skip)
set_option maxRecDepth 1000000 in
set_option maxHeartbeats 4000000 in
theorem loop2 (w0 : World) (X T B X5 : Nat) (L : List UInt8) (e tot un : Int) (vE : Value) (K : Nat) (hK : K ≤ 4) (hBX : B ≤ X) (hX5 : X ≠ X5) (hB5 : B ≤ X5) (hR : IsR w0 X T B L e)
    (hb : Blk w0 X5 45 #[.int .u64 tot, vE, .int .u64 un, .slice none 0 0]) (s0 s1 s2 s3 s6 s7 s9 s10 s11 s12 s13 s14 s15 s16 s17 s18 s19 s20 s21 s22 s23 s24 s25 s26 s27 s28 s29 s30 s31 s32 s33 s34 s35 s36 s37 s38 s39 s40 s41 s42 s43 s44 s45 s46 s47 s48 s49 s50 s51 s52 s53 s54 s55 s56 s57 s58 s59 s60 s61 s62 s63 s64 s65 s66 s67 s68 s69 s70 s71 : Value) :
    Code.wp Try.prog (Code.loop lp2) (LoopPostK 2 fun a' w' => ∃ R cR Q, DRowSt w0 X T B X5 L e tot un vE K R cR Q w' ∧ (∃ u8 u9 u10 u44 u45 u46 u47 u48 u49 u50 u51 u52 u53 u54 u55 u56 u57 u58 u59 u60 u61 u62 u63 u64 : Value, a' = ⟨#[s0, s1, s2, s3, .pointer (some ⟨X, 0, none⟩), .pointer (some ⟨X5, 0, none⟩), s6, s7, u8, u9, u10, s11, s12, s13, s14, s15, s16, s17, s18, s19, s20, s21, s22, s23, s24, s25, s26, s27, s28, s29, s30, s31, s32, s33, s34, s35, s36, s37, s38, s39, s40, s41, s42, s43, u44, u45, u46, u47, u48, u49, u50, u51, u52, u53, u54, u55, u56, u57, u58, u59, u60, u61, u62, u63, u64, s65, s66, s67, s68, s69, s70, s71], []⟩)) ⟨#[s0, s1, s2, s3, .pointer (some ⟨X, 0, none⟩), .pointer (some ⟨X5, 0, none⟩), s6, s7, .int .i64 (K : Int), s9, s10, s11, s12, s13, s14, s15, s16, s17, s18, s19, s20, s21, s22, s23, s24, s25, s26, s27, s28, s29, s30, s31, s32, s33, s34, s35, s36, s37, s38, s39, s40, s41, s42, s43, s44, s45, s46, s47, s48, s49, s50, s51, s52, s53, s54, s55, s56, s57, s58, s59, s60, s61, s62, s63, s64, s65, s66, s67, s68, s69, s70, s71], []⟩ w0 := by
  have hX0 : X < w0.heap.size := by obtain ⟨_, _, _, h1, _⟩ := hR; exact h1.lt
  have hX50 := hb.lt
  have HI := hide (DRowSt.zero (tot := tot) (un := un) hR hb)
  clear hR hb
  conv => arg 2; arg 1; whnf
  dsimp only
  go_loopw [8] (fun iv wr => ∃ (i : Nat) (R : Option Addr) (cR : Nat) (Q : List sp21.Rw), i ≤ K ∧ iv = .int .i64 ((K - i : Nat) : Int) ∧ Hid (DRowSt w0 X T B X5 L e tot un vE i R cR Q wr)) (fun iv _ => (intOf iv).toNat)
  case atStart => exact ⟨0, none, 0, [], by omega, rfl, HI⟩
  case round =>
    obtain ⟨i, R, cR, Q, hi, rfl, HS⟩ := hrel
    by_cases hlt : i < K
    · have h0 : (0 : Int) < ((K - i : Nat) : Int) := by omega
      obtain ⟨l, L1, e1, hE⟩ : ∃ l L1 e1, drowsP i L e = (l, L1, e1) := ⟨_, _, _, rfl⟩
      obtain ⟨m, L2, e2, hk, hm⟩ := uptoP_nat L1 e1 256 7 (by omega)
      obtain ⟨zs, L3, e3, hs⟩ : ∃ l L3 e3, numsP m L2 e2 = (l, L3, e3) := ⟨_, _, _, rfl⟩
      have HN1 := hide (drowsP_next hE hk hs)
      have hzl : zs.length = m := by have := numsP_len m L2 e2; rw [hs] at this; exact this
      have HU : Hid (∀ z ∈ zs, U z) := hide (by have := numsP_U m L2 e2; rw [hs] at this; exact this)
      obtain ⟨RW, hQl, hQm, ir, BL, KK⟩ : sp21.RwS wr w0.heap.size R cR Q ∧ Q.length = i ∧ Q.map (fun q => q.2.2.2) = l ∧ IsR wr X T B L1 e1 ∧ Blk wr X5 45 #[.int .u64 tot, vE, .int .u64 un, .slice R i cR] ∧ Keeps (fun b => b = X ∨ b = X5) w0 wr := by
        have h := HS.out
        unfold DRowSt at h
        rw [hE] at h
        exact h
      have hwr := KK.size
      have RW := hide RW
      have BL := hide BL
      have KK := hide KK
      have IR := hide ir
      have HQl := hide hQl
      have HQm := hide hQm
      have HK := hide hk
      have HSl := hide hs
      have HZL := hide hzl
      clear ir hk hs hE HS HI hQl hQm hzl
      go_wp2_with fail
      trace "UPTO"
      refine (rupto_eq _ X T B L1 e1 256 7 IR.out hBX (by omega) (by omega) (by omega) HK.out).mono ?_
      rintro e' w1 ⟨rfl, ir, k1⟩
      have RW1 := hide (RW.out.kept k1 (fun b hb _ e => by omega))
      have BL := hide (BL.out.kept k1 (by omega))
      have KK := hide (KK.out.step k1 (fun b hb e => .inl e))
      have hz1 := k1.size
      have IR := hide ir
      clear k1 ir RW
      go_wp2_with fail
      trace "L3"
      refine Code.wp_mono ?_ (loop3 w1 X T B L2 e2 m (by omega) hBX (by omega) IR.out _ _ _ _ _ _ _ _ _ _ _ _ _ _ _ _ _ _ _ _ _ _ _ _ _ _ _ _ _ _ _ _ _ _ _ _ _ _ _ _ _ _ _ _ _ _ _ _ _ _ _ _ _ _ _ _ _ _ _ _ _ _ _ _ _ _ _ _ _)
      intro ex a' w2 hex
      cases ex <;> (first | exact hex.elim | skip)
      obtain ⟨rfl, A, cp, hNS, ⟨v10, v50, v51, v52, v53, v54, v55, v56, v57, v58, rfl⟩⟩ := hex
      have ⟨o2, ir2, k2⟩ := hNS
      rw [HSl.out] at o2 ir2
      dsimp only at o2 ir2
      have IR := hide ir2
      have O2 := hide (show Own w2 w1.heap.size 24 1 A zs.length cp (zs.map (.int .u64)) from by rw [HZL.out]; exact o2)
      have BL := hide (BL.out.kept k2 (by omega))
      have KK := hide (KK.out.step k2 (fun b hb e => .inl e))
      have RW2 := hide (RW1.out.kept k2 (fun b hb _ e => by omega))
      have hz2 := k2.size
      have p3 : w2.cell? ⟨X5, 3, none⟩ = some (.slice R i cR) := BL.out.cell 3
      have kA := (Keeps.refl (fun _ => False) w2).alloc (.cells #[.slice A m cp] 31)
      have K12 := hide (k2.step0 kA)
      have HRA := hide (show Rd (w2.alloc (.cells #[.slice A m cp] 31)) (w2.alloc (.cells #[.slice A m cp] 31)).heap.size (some ⟨w2.heap.size, 0, none⟩) 1 1 [.slice A m cp] from (Blk.new w2 31 #[.slice A m cp]).rd (xs := [.slice A m cp]) (n := 1) (sz := 1) rfl)
      have HOA := hide (RW2.out.own.kept kA (fun _ _ h => h))
      rw [HQl.out] at HOA
      have O2 := hide (O2.out.kept kA (fun _ _ h => h))
      have HBA := hide (BL.out.kept kA (fun h => h))
      have HIA := hide (IR.out.kept kA (fun h => h) (fun _ _ h => h))
      have HKA := hide (KK.out.step kA (fun _ _ h => h.elim))
      have hszW := KK.out.size
      clear hNS o2 ir2 k2 kA BL IR RW2 KK
      dsimp only
      go_upto_region 15 with (at_builtin; refine wpList_app _ sp21.elemR rfl (.tmp 60) (.tmp 62) rfl w0.heap.size (Q.map sp21.rwV) rfl HOA.out _ (m := 1) [.slice A m cp] rfl HRA.out (by simp [Value.oneCell']) (by simp only [maxLen]; omega) (by omega) (by simp; omega) ?_; intro A7 c7 w7 o7 k7 _; have O7 := hide o7; have hX27 : ∀ b, inB R b → w0.heap.size ≤ b := (fun b hb => (HOA.out.inB hb).1); have B7 := hide (HBA.out.kept k7 (fun h => by have := hX27 _ h; omega)); have I7 := hide (HIA.out.kept k7 (fun h => by have := hX27 _ h; omega) (fun b hb h => by have := hX27 _ h; omega)); have K7 := hide (HKA.out.step k7 (fun k hk h => by have := hX27 _ h; omega)); have KR7 := hide k7; have q14 := B7.out.cell 3; have f14 := B7.out.frozen 3; clear o7 k7)
      clear hX27 HBA HIA HKA
      have kS : Keeps (· = X5) w7 (w7.setCell ⟨X5, 3, none⟩ (.slice A7 (i + 1) c7)) := Keeps.setCell (S := (· = X5)) (p := ⟨X5, 3, none⟩) (Keeps.refl _ _) (.inl rfl) _
      have HN : Hid (DRowSt w0 X T B X5 L e tot un vE (i + 1) A7 c7 (Q ++ [(A, zs.length, cp, zs)]) (w7.setCell ⟨X5, 3, none⟩ (.slice A7 (i + 1) c7))) := hide (by
        unfold DRowSt
        rw [HN1.out]
        have hr7 := sp21.RwS.snoc RW1.out K12.out (fun b hb => by omega) (Nat.le_refl _) (by omega) O2.out HU.out KR7.out (R' := A7) (c' := c7) (by rw [HQl.out, HZL.out]; exact O7.out)
        refine ⟨hr7.kept kS (fun b hb _ e => by omega), by rw [List.length_append, HQl.out]; rfl, by rw [List.map_append, HQm.out]; rfl, I7.out.kept kS (by omega) (fun b hb => by omega), B7.out.set 3 _, K7.out.step kS (fun b hb e => Or.inr e)⟩)
      clear kS O7 I7 B7 K7 KR7 HOA HRA O2 K12 RW1 q14 f14 p3
      generalize w7.setCell _ _ = w8 at *
      trace "R15"
      have e5 : IntKind.i64.wrap (((K - i : Nat) : Int) - 1) = ((K - i : Nat) : Int) - 1 := IntWalk.i64_in _ (by omega)
      go_wp2_with fail
      trace "ROUND"
      go_roundw
      case rel => exact ⟨i + 1, A7, c7, _, by omega, by go_num, HN⟩
      case measure => simp [intOf]; omega
    · obtain rfl : i = K := by omega
      have h0 : ¬ (0 : Int) < ((i - i : Nat) : Int) := by omega
      go_wp2_with fail
      trace "END"
      first | exact ⟨rfl, ⟨R, cR, Q, HS.out⟩, _, _, _, _, _, _, _, _, _, _, _, _, _, _, _, _, _, _, _, _, _, _, _, _, rfl⟩ | exact ⟨rfl, R, cR, ⟨Q, HS.out⟩, _, _, _, _, _, _, _, _, _, _, _, _, _, _, _, _, _, _, _, _, _, _, _, _, rfl⟩ | (trace_state; fail)
end rdec
end Go.Proofs.Ytaiopdipldaimaa

set_option linter.unusedVariables false
set_option linter.unusedSimpArgs false
namespace Go.Proofs.Ytaiopdipldaimaa
open Go.RowKit Vp
/-- what Decode returns -/
def Decs (w : World) (D : Dec) (e : Ending) (w' : World) : Prop := ∃ v, e = .returned (.tuple #[v, .int .i64 D.err]) ∧ DecV w D v w' ∧ Keeps (fun _ => False) w w'
set_option maxRecDepth 1000000 in
set_option maxHeartbeats 4000000 in
theorem rdecode_any (w : World) (B : Nat) (A : Option Addr) (n c : Nat) (L : List UInt8) (hr : Rd w B A 1 n (L.map by8)) (hB : B ≤ w.heap.size) (hnc : n ≤ c) (hn : n ≤ 140737488351232) :
    Calls Try.prog 30 #[.slice A n c] w (Decs w (decP L)) := by
  obtain ⟨w3, hw3⟩ : ∃ w3, w3 = ((w.alloc (.cells #[.int .u64 0, .slice none 0 0, .int .u64 0, .slice none 0 0] 45)).alloc (.cells #[.slice A n c, .int .i64 0] 111)).alloc (.cells #[.int .u64 0, .slice none 0 0, .int .u64 0, .slice none 0 0] 45) := ⟨_, rfl⟩
  have kw3 : Keeps (fun _ => False) w w3 := by rw [hw3]; exact (((Keeps.refl _ _).alloc _).alloc _).alloc _
  have B2 : Hid (Blk w3 w.heap.size 45 #[.int .u64 0, .slice none 0 0, .int .u64 0, .slice none 0 0]) := hide (by rw [hw3]; exact ((Blk.new _ _ _).alloc _).alloc _)
  have BR : Blk w3 (w.heap.size + 1) 111 #[.slice A n c, .int .i64 0] := by rw [hw3]; exact (Blk.new_at _ _ _ _ (by simp)).alloc _
  have BL : Hid (Blk w3 (w.heap.size + 1 + 1) 45 #[.int .u64 0, .slice none 0 0, .int .u64 0, .slice none 0 0]) := hide (by rw [hw3]; exact Blk.new_at _ _ _ _ (by simp))
  have IR : Hid (IsR w3 (w.heap.size + 1) 111 B L 0) := hide ⟨A, n, c, BR, hr.kept kw3 (fun _ _ h => h), hnc, hn⟩
  have KK := hide kw3
  have HW3 := hide hw3
  have hsz3 : w3.heap.size = w.heap.size + 3 := by rw [hw3]; simp
  obtain ⟨tot, L1, e1, ht⟩ : ∃ x y z, numP L 0 = (x, y, z) := ⟨_, _, _, rfl⟩
  obtain ⟨un, L2, e2, hu⟩ : ∃ x y z, numP L1 e1 = (x, y, z) := ⟨_, _, _, rfl⟩
  obtain ⟨ne, L3, e3, hm, hne⟩ := uptoP_nat L2 e2 96 7 (by omega)
  obtain ⟨es, L4, e4, hes⟩ : ∃ x y z, entsP ne L3 e3 = (x, y, z) := ⟨_, _, _, rfl⟩
  obtain ⟨nr, L5, e5, hm2, hnr⟩ := uptoP_nat L4 e4 4 7 (by omega)
  obtain ⟨rs, L6, e6, hrs⟩ : ∃ x y z, drowsP nr L5 e5 = (x, y, z) := ⟨_, _, _, rfl⟩
  obtain ⟨ef, hef⟩ : ∃ ef, endP L6 e6 = ef := ⟨_, rfl⟩
  have hD : decP L = if ef = 0 then ⟨tot, un, es, rs, 0⟩ else ⟨0, 0, [], [], ef⟩ := by
    unfold decP
    simp only [ht, hu, hm, Int.toNat_natCast, hes, hm2, hrs, hef]
  generalize decP L = D at *
  have HD := hide hD
  have hel : es.length = ne := by have := entsP_len ne L3 e3; rw [hes] at this; exact this
  have HEl := hide hel
  have HT := hide ht
  have HU := hide hu
  have HM := hide hm
  have HEs := hide hes
  have HM2 := hide hm2
  have HRs := hide hrs
  have HEnd := hide hef
  clear hw3 kw3 BR hr ht hu hm hes hm2 hrs hef hD hel
  go_enter Try.func30, Try.ntmps30
  go_upto_region 3 with fail
  trace "R3"
  rw [← HW3.out]
  clear HW3
  generalize hX2 : w.heap.size = X2 at *
  generalize hX : X2 + 1 = X at *
  generalize hX5 : X + 1 = X5 at *
  have hXs : X2 < X ∧ X < X5 ∧ B ≤ X2 := by omega
  have HXs := hide hXs
  have HX2 := hide hX2
  clear hX hX5 hX2 hsz3
  go_wp2_with fail
  refine (rnum_eq _ X _ B L 0 IR.out (by omega) HT.out).mono ?_
  rintro e' w1 ⟨rfl, ir, k1⟩
  have B2 := hide (B2.out.kept k1 (by omega))
  have BL := hide (BL.out.kept k1 (by omega))
  have KK := hide (KK.out.step k1 (fun b hb e => by have := HX2.out; omega))
  have kB : Keeps (· = X5) w1 (w1.setCell ⟨X5, 0, none⟩ (.int .u64 tot)) := Keeps.setCell (S := (· = X5)) (p := ⟨X5, 0, none⟩) (Keeps.refl _ _) (.inl rfl) _
  have f0 := BL.out.frozen 0
  have q0 := BL.out.cell 0
  have BL := hide (BL.out.set 0 (.int .u64 tot))
  have B2 := hide (B2.out.kept kB (by omega))
  have IR := hide (ir.kept kB (by omega) (fun b hb => by omega))
  have KK := hide (KK.out.step kB (fun b hb e => by have := HX2.out; omega))
  clear k1 kB ir
  go_upto_region 4 with fail
  clear f0 q0
  generalize w1.setCell _ _ = w4 at *
  trace "R4"
  go_wp2_with fail
  refine (rnum_eq _ X _ B L1 e1 IR.out (by omega) HU.out).mono ?_
  rintro e' w1 ⟨rfl, ir, k1⟩
  have B2 := hide (B2.out.kept k1 (by omega))
  have BL := hide (BL.out.kept k1 (by omega))
  have KK := hide (KK.out.step k1 (fun b hb e => by have := HX2.out; omega))
  have kB : Keeps (· = X5) w1 (w1.setCell ⟨X5, 2, none⟩ (.int .u64 un)) := Keeps.setCell (S := (· = X5)) (p := ⟨X5, 2, none⟩) (Keeps.refl _ _) (.inl rfl) _
  have f0 := BL.out.frozen 2
  have q0 := BL.out.cell 2
  have BL := hide (BL.out.set 2 (.int .u64 un))
  have B2 := hide (B2.out.kept kB (by omega))
  have IR := hide (ir.kept kB (by omega) (fun b hb => by omega))
  have KK := hide (KK.out.step kB (fun b hb e => by have := HX2.out; omega))
  clear k1 kB ir
  go_upto_region 5 with fail
  clear f0 q0
  generalize w1.setCell _ _ = w5 at *
  trace "R5"
  go_wp2_with fail
  refine (rupto_eq _ X _ B L2 e2 96 7 IR.out (by omega) (by omega) (by omega) (by omega) HM.out).mono ?_
  rintro e' w6 ⟨rfl, ir, k1⟩
  have B2 := hide (B2.out.kept k1 (by omega))
  have BL := hide (BL.out.kept k1 (by omega))
  have KK := hide (KK.out.step k1 (fun b hb e => by have := HX2.out; omega))
  have IR := hide ir
  clear ir
  go_wp2_with fail
  trace "L1"
  refine Code.wp_mono ?_ (rdec.loop1 w6 X _ B X5 L3 e3 tot un ne (by omega) (by omega) (by omega) (by omega) IR.out BL.out _ _ _ _ _ _ _ _ _ _ _ _ _ _ _ _ _ _ _ _ _ _ _ _ _ _ _ _ _ _ _ _ _ _ _ _ _ _ _ _ _ _ _ _ _ _ _ _ _ _ _ _ _ _ _ _ _ _ _ _ _ _ _ _ _ _ _ _ _)
  intro ex a' w7 hex
  cases ex <;> (first | exact hex.elim | skip)
  obtain ⟨rfl, AE, cE, hS, ⟨v6, v7, v23, v24, v25, v26, v27, v28, v29, v30, v31, v32, v33, v34, v35, v36, v37, v38, v39, v40, v41, rfl⟩⟩ := hex
  have hS' : Own w7 w6.heap.size 99 3 AE ne cE (lnCs es) ∧ IsR w7 X 111 B L4 e4 ∧ Blk w7 X5 45 #[.int .u64 tot, .slice AE ne cE, .int .u64 un, .slice none 0 0] ∧ Keeps (fun b => b = X ∨ b = X5) w6 w7 := by
    have h := hS
    unfold EntSt at h
    rw [HEs.out] at h
    exact h
  obtain ⟨oe, ir, bl, k2⟩ := hS'
  have hz6 : X5 < w6.heap.size := BL.out.lt
  have OE := hide (show Own w7 (X5 + 1) 99 3 AE ne cE (lnCs es) from oe.base_le (by omega))
  have IR := hide ir
  have BL := hide bl
  have B2 := hide (B2.out.kept k2 (by omega))
  have KK := hide (KK.out.step k2 (fun b hb e => by have := HX2.out; omega))
  clear oe ir bl k2 hS hz6 k1
  dsimp only
  go_wp2_with fail
  trace "UPTO2"
  refine (rupto_eq _ X _ B L4 e4 4 7 IR.out (by omega) (by omega) (by omega) (by omega) HM2.out).mono ?_
  rintro e' w8 ⟨rfl, ir, k1⟩
  have B2 := hide (B2.out.kept k1 (by omega))
  have BL := hide (BL.out.kept k1 (by omega))
  have KK := hide (KK.out.step k1 (fun b hb e => by have := HX2.out; omega))
  have IR := hide ir
  clear ir
  have OE := hide (OE.out.kept k1 (fun b hb e => by have := (OE.out.inB hb).1; omega))
  go_wp2_with fail
  trace "L2"
  refine Code.wp_mono ?_ (rdec.loop2 w8 X _ B X5 L5 e5 tot un (.slice AE ne cE) nr (by omega) (by omega) (by omega) (by omega) IR.out BL.out _ _ _ _ _ _ _ _ _ _ _ _ _ _ _ _ _ _ _ _ _ _ _ _ _ _ _ _ _ _ _ _ _ _ _ _ _ _ _ _ _ _ _ _ _ _ _ _ _ _ _ _ _ _ _ _ _ _ _ _ _ _ _ _ _ _ _ _ _)
  intro ex a' w9 hex
  cases ex <;> (first | exact hex.elim | skip)
  obtain ⟨rfl, R, cR, Q, hS, ⟨y8, y9, y10, y44, y45, y46, y47, y48, y49, y50, y51, y52, y53, y54, y55, y56, y57, y58, y59, y60, y61, y62, y63, y64, rfl⟩⟩ := hex
  have hS' : sp21.RwS w9 w8.heap.size R cR Q ∧ Q.length = nr ∧ Q.map (fun q => q.2.2.2) = rs ∧ IsR w9 X 111 B L6 e6 ∧ Blk w9 X5 45 #[.int .u64 tot, .slice AE ne cE, .int .u64 un, .slice R nr cR] ∧ Keeps (fun b => b = X ∨ b = X5) w8 w9 := by
    have h := hS
    unfold DRowSt at h
    rw [HRs.out] at h
    exact h
  obtain ⟨rw9, hql, hqm, ir, bl, k2⟩ := hS'
  have hz8 : X5 < w8.heap.size := BL.out.lt
  have RW := hide (show sp21.RwS w9 (X5 + 1) R cR Q from rw9.base_le (by omega))
  have OE := hide (OE.out.kept k2 (fun b hb e => by have := (OE.out.inB hb).1; omega))
  have IR := hide ir
  have BL := hide bl
  have B2 := hide (B2.out.kept k2 (by omega))
  have KK := hide (KK.out.step k2 (fun b hb e => by have := HX2.out; omega))
  have HQl := hide hql
  have HQm := hide hqm
  clear rw9 hql hqm ir bl k2 hS hz8 k1
  dsimp only
  go_wp2_with fail
  trace "ENDCALL"
  refine (rend_any _ X _ B _ _ IR.out (by omega)).mono ?_
  rintro e' w10 ⟨rfl, k1⟩
  rw [HEnd.out]
  have B2 := hide (B2.out.kept k1 (by omega))
  have BL := hide (BL.out.kept k1 (by omega))
  have OE := hide (OE.out.kept k1 (fun b hb e => by have := (OE.out.inB hb).1; omega))
  have RW := hide (RW.out.kept k1 (fun b hb _ e => by omega))
  have KK := hide (KK.out.step k1 (fun b hb e => by have := HX2.out; omega))
  clear k1 IR
  by_cases hz : ef = 0
  · subst hz
    have z0 := B2.out.cell 0
    have z1 := B2.out.cell 1
    have z2 := B2.out.cell 2
    have z3 := B2.out.cell 3
    have g0 := BL.out.cell 0
    have g1 := BL.out.cell 1
    have g2 := BL.out.cell 2
    have g3 := BL.out.cell 3
    have f0 := B2.out.frozen 0
    have f1 := B2.out.frozen 1
    have f2 := B2.out.frozen 2
    have f3 := B2.out.frozen 3
    skip
    go_wp2_with fail
    trace "FIN"
    have bS := (((B2.out.set 0 (.int .u64 tot)).set 1 (.slice AE ne cE)).set 2 (.int .u64 un)).set 3 (.slice R nr cR)
    have kS : Keeps (· = X2) w10 ((((w10.setCell ⟨X2, 0, none⟩ (.int .u64 tot)).setCell ⟨X2, 1, none⟩ (.slice AE ne cE)).setCell ⟨X2, 2, none⟩ (.int .u64 un)).setCell ⟨X2, 3, none⟩ (.slice R nr cR)) := Keeps.setCell (S := (· = X2)) (p := ⟨X2, 3, none⟩) (Keeps.setCell (S := (· = X2)) (p := ⟨X2, 2, none⟩) (Keeps.setCell (S := (· = X2)) (p := ⟨X2, 1, none⟩) (Keeps.setCell (S := (· = X2)) (p := ⟨X2, 0, none⟩) (Keeps.refl _ _) (.inl rfl) _) (.inl rfl) _) (.inl rfl) _) (.inl rfl) _
    have r0 := bS.cell 0
    have r1 := bS.cell 1
    have r2 := bS.cell 2
    have r3 := bS.cell 3
    have KKx := KK.out.step kS (fun b hb e => by have := HX2.out; omega)
    clear z0 z1 z2 z3 f0 f1 f2 f3 g0 g1 g2 g3
    have OEx := OE.out.kept kS (fun b hb e => by have := (OE.out.inB hb).1; omega)
    have RWx := RW.out.kept kS (fun b hb _ e => by omega)
    clear kS
    generalize (((w10.setCell _ _).setCell _ _).setCell _ _).setCell _ _ = wz at *
    refine bodyPost_ret (v := .tuple #[smV tot AE ne cE un R nr cR, .int .i64 0]) (by simp [results, Try.results30, go_sem, r0, r1, r2, r3]) rfl ?_
    have hD := HD.out
    rw [if_pos trivial] at hD
    subst hD
    refine ⟨_, rfl, ⟨AE, cE, R, cR, Q, ?_, ?_, RWx.base_le (by have := HX2.out; omega), HQm.out⟩, KKx⟩
    · show smV tot AE ne cE un R nr cR = smV tot AE es.length cE un R Q.length cR
      rw [HEl.out, HQl.out]
    · show Own wz w.heap.size _ 3 AE es.length cE (lnCs es)
      rw [HEl.out]
      exact OEx.base_le (by have := HX2.out; omega)
  · have HZ := hide hz
    have hz1 : (ef != 0) = true := by simp [hz]
    clear hz
    have z0 := B2.out.cell 0
    have z1 := B2.out.cell 1
    have z2 := B2.out.cell 2
    have z3 := B2.out.cell 3
    have g0 := BL.out.cell 0
    have g1 := BL.out.cell 1
    have g2 := BL.out.cell 2
    have g3 := BL.out.cell 3
    have f0 := B2.out.frozen 0
    have f1 := B2.out.frozen 1
    have f2 := B2.out.frozen 2
    have f3 := B2.out.frozen 3
    skip
    go_wp2_with fail
    trace "FIN"
    have bS := (((B2.out.set 0 (.int .u64 0)).set 1 (.slice none 0 0)).set 2 (.int .u64 0)).set 3 (.slice none 0 0)
    have kS : Keeps (· = X2) w10 ((((w10.setCell ⟨X2, 0, none⟩ (.int .u64 0)).setCell ⟨X2, 1, none⟩ (.slice none 0 0)).setCell ⟨X2, 2, none⟩ (.int .u64 0)).setCell ⟨X2, 3, none⟩ (.slice none 0 0)) := Keeps.setCell (S := (· = X2)) (p := ⟨X2, 3, none⟩) (Keeps.setCell (S := (· = X2)) (p := ⟨X2, 2, none⟩) (Keeps.setCell (S := (· = X2)) (p := ⟨X2, 1, none⟩) (Keeps.setCell (S := (· = X2)) (p := ⟨X2, 0, none⟩) (Keeps.refl _ _) (.inl rfl) _) (.inl rfl) _) (.inl rfl) _) (.inl rfl) _
    have r0 := bS.cell 0
    have r1 := bS.cell 1
    have r2 := bS.cell 2
    have r3 := bS.cell 3
    have KKx := KK.out.step kS (fun b hb e => by have := HX2.out; omega)
    clear z0 z1 z2 z3 f0 f1 f2 f3 g0 g1 g2 g3
    clear kS
    generalize (((w10.setCell _ _).setCell _ _).setCell _ _).setCell _ _ = wz at *
    refine bodyPost_ret (v := .tuple #[smV 0 none 0 0 0 none 0 0, .int .i64 ef]) (by simp [results, Try.results30, go_sem, r0, r1, r2, r3]) rfl ?_
    have hD := HD.out
    rw [if_neg HZ.out] at hD
    subst hD
    exact ⟨_, rfl, ⟨none, 0, none, 0, [], rfl, Own.nil _ _ _ _, ⟨Own.nil _ _ _ _, fun q hq => (by cases hq), List.Pairwise.nil⟩, rfl⟩, KKx⟩
end Go.Proofs.Ytaiopdipldaimaa

set_option linter.unusedVariables false
set_option linter.unusedSimpArgs false
namespace Go.Proofs.Ytaiopdipldaimaa
open Go.RowKit Vp
namespace sdec
open rdec (loops LoopPostK)
noncomputable def lp1 : Code := ((loops Try.f29.body.get!)[0]?.getD .skip)
set_option maxRecDepth 1000000 in
set_option maxHeartbeats 4000000 in
theorem loop1 (w0 : World) (X T B X5 : Nat) (L : List UInt8) (e tot un : Int) (K : Nat) (hK : K ≤ 96) (hBX : B ≤ X) (hX5 : X ≠ X5) (hB5 : B ≤ X5) (hR : IsR w0 X T B L e)
    (hb : Blk w0 X5 45 #[.int .u64 tot, .slice none 0 0, .int .u64 un, .slice none 0 0]) (s0 s1 s2 s3 s6 s7 s8 s9 s10 s11 s12 s13 s14 s15 s16 s17 s20 s21 s22 s23 s24 s25 s26 s27 s28 s29 s30 s31 s32 s33 s34 s35 s36 s37 s38 s39 s40 s41 s42 s43 s44 s45 s46 s47 s48 s49 s50 s51 s52 s53 s54 s55 s56 s57 s58 s59 s60 s61 s62 s63 s64 s65 s66 s67 s68 s69 s70 s71 s72 s73 s74 s75 s76 s77 s78 s79 s80 s81 s82 s83 s84 : Value) :
    Code.wp Try.prog (Code.loop lp1) (LoopPostK 0 fun a' w' => ∃ A cp, EntSt w0 X T B X5 L e tot un K A cp w' ∧ (∃ u6 u19 u20 u21 u22 u23 u24 u25 u26 u27 u28 u29 u30 u31 u32 u33 u34 u35 u36 : Value, a' = ⟨#[s0, s1, s2, s3, .pointer (some ⟨X, 0, none⟩), .pointer (some ⟨X5, 0, none⟩), u6, s7, s8, s9, s10, s11, s12, s13, s14, s15, s16, s17, .int .i64 (K : Int), u19, u20, u21, u22, u23, u24, u25, u26, u27, u28, u29, u30, u31, u32, u33, u34, u35, u36, s37, s38, s39, s40, s41, s42, s43, s44, s45, s46, s47, s48, s49, s50, s51, s52, s53, s54, s55, s56, s57, s58, s59, s60, s61, s62, s63, s64, s65, s66, s67, s68, s69, s70, s71, s72, s73, s74, s75, s76, s77, s78, s79, s80, s81, s82, s83, s84], []⟩)) ⟨#[s0, s1, s2, s3, .pointer (some ⟨X, 0, none⟩), .pointer (some ⟨X5, 0, none⟩), s6, s7, s8, s9, s10, s11, s12, s13, s14, s15, s16, s17, .int .i64 (K : Int), .int .i64 0, s20, s21, s22, s23, s24, s25, s26, s27, s28, s29, s30, s31, s32, s33, s34, s35, s36, s37, s38, s39, s40, s41, s42, s43, s44, s45, s46, s47, s48, s49, s50, s51, s52, s53, s54, s55, s56, s57, s58, s59, s60, s61, s62, s63, s64, s65, s66, s67, s68, s69, s70, s71, s72, s73, s74, s75, s76, s77, s78, s79, s80, s81, s82, s83, s84], []⟩ w0 := by
  have hX0 : X < w0.heap.size := by obtain ⟨_, _, _, h1, _⟩ := hR; exact h1.lt
  have hX50 := hb.lt
  have HI := hide (EntSt.zero (tot := tot) (un := un) hR hb)
  clear hR hb
  conv => arg 2; arg 1; whnf
  dsimp only
  go_loopw [19] (fun iv wr => ∃ (i : Nat) (A : Option Addr) (cp : Nat), i ≤ K ∧ iv = .int .i64 (i : Int) ∧ Hid (EntSt w0 X T B X5 L e tot un i A cp wr)) (fun iv _ => K - (intOf iv).toNat)
  case atStart => exact ⟨0, none, 0, by omega, rfl, HI⟩
  case round =>
    obtain ⟨i, A, cp, hi, rfl, HS⟩ := hrel
    by_cases hlt : i < K
    · have h0 : (i : Int) < (K : Int) := by omega
      have h00 : (0 : Int) ≤ (i : Int) := by omega
      obtain ⟨l, L1, e1, hE⟩ : ∃ l L1 e1, entsP i L e = (l, L1, e1) := ⟨_, _, _, rfl⟩
      obtain ⟨kb, L2, e2, hk⟩ : ∃ l L2 e2, textP L1 e1 = (l, L2, e2) := ⟨_, _, _, rfl⟩
      obtain ⟨ow, L3, e3, ho⟩ : ∃ l L3 e3, numP L2 e2 = (l, L3, e3) := ⟨_, _, _, rfl⟩
      obtain ⟨sl, L4, e4, hs⟩ : ∃ l L4 e4, numP L3 e3 = (l, L4, e4) := ⟨_, _, _, rfl⟩
      have HN1 := hide (entsP_next hE hk ho hs)
      have HLl : Hid (l.length = i) := hide (by have := entsP_len i L e; rw [hE] at this; exact this)
      obtain ⟨OW, ir, BL, KK⟩ : Own wr w0.heap.size 99 3 A i cp (lnCs l) ∧ IsR wr X T B L1 e1 ∧ Blk wr X5 45 #[.int .u64 tot, .slice A i cp, .int .u64 un, .slice none 0 0] ∧ Keeps (fun b => b = X ∨ b = X5) w0 wr := by
        have h := HS.out
        unfold EntSt at h
        rw [hE] at h
        exact h
      have hwr := KK.size
      have OW := hide OW
      have IR := hide ir
      have BL := hide BL
      have KK := hide KK
      have HK := hide hk
      have HO := hide ho
      have HSl := hide hs
      have hAo : ∀ b, inB A b → b < wr.heap.size := fun b hb => (OW.out.inB hb).2
      clear ir hk ho hs hE HS HI
      go_wp2_with fail
      trace "KEY"
      refine (stext_eq _ X T B L1 e1 IR.out hBX HK.out).mono ?_
      rintro e' w1 ⟨rfl, ir, k1⟩
      have hz1 := k1.size
      have OW := hide (OW.out.kept k1 (fun b hb e => by have := OW.out.inB hb; omega))
      have BL := hide (BL.out.kept k1 (by omega))
      have KK := hide (KK.out.step k1 (fun b hb e => .inl e))
      have kA := (Keeps.refl (fun _ => False) w1).alloc (.cells #[.string ⟨kb.toArray⟩, .int .u64 0, .int .u64 0] 99)
      have GA := hide (Blk.new w1 99 #[.string ⟨kb.toArray⟩, .int .u64 0, .int .u64 0])
      have OW := hide (OW.out.kept kA (fun _ _ h => h))
      have IR := hide (ir.kept kA (fun h => h) (fun _ _ h => h))
      have BL := hide (BL.out.kept kA (fun h => h))
      have KK := hide (KK.out.step kA (fun _ _ h => h.elim))
      clear kA ir k1
      go_upto_region 8 with fail
      trace "R8"
      generalize w1.alloc _ = wb at *
      generalize w1.heap.size = gx at *
      have hgx := GA.out.lt
      go_wp2_with fail
      refine (snum_eq _ X T B L2 e2 IR.out hBX HO.out).mono ?_
      rintro e' w1 ⟨rfl, ir, k1⟩
      have hz1 := k1.size
      have GA := hide (GA.out.kept k1 (by omega))
      have OW := hide (OW.out.kept k1 (fun b hb e => by have := OW.out.inB hb; omega))
      have BL := hide (BL.out.kept k1 (by omega))
      have KK := hide (KK.out.step k1 (fun b hb e => .inl e))
      have kB : Keeps (· = gx) w1 (w1.setCell ⟨gx, 1, none⟩ (.int .u64 ow)) := Keeps.setCell (S := (· = gx)) (p := ⟨gx, 1, none⟩) (Keeps.refl _ _) (.inl rfl) _
      have hzB := kB.size
      have f0 := GA.out.frozen 1
      have q0 := GA.out.cell 1
      have GB := hide (GA.out.set 1 (.int .u64 ow))
      have OW := hide (OW.out.kept kB (fun b hb e => by have := hAo b hb; omega))
      have IR := hide (ir.kept kB (by omega) (fun b hb => by omega))
      have BL := hide (BL.out.kept kB (by omega))
      have KK := hide (KK.out.step kB (fun b hb e => by omega))
      clear k1 kB ir GA
      go_upto_region 9 with fail
      clear f0 q0
      generalize w1.setCell _ _ = wc at *
      have GA := GB
      clear GB
      trace "R9"
      go_wp2_with fail
      refine (snum_eq _ X T B L3 e3 IR.out hBX HSl.out).mono ?_
      rintro e' w1 ⟨rfl, ir, k1⟩
      have hz1 := k1.size
      have GA := hide (GA.out.kept k1 (by omega))
      have OW := hide (OW.out.kept k1 (fun b hb e => by have := OW.out.inB hb; omega))
      have BL := hide (BL.out.kept k1 (by omega))
      have KK := hide (KK.out.step k1 (fun b hb e => .inl e))
      have kB : Keeps (· = gx) w1 (w1.setCell ⟨gx, 2, none⟩ (.int .u64 sl)) := Keeps.setCell (S := (· = gx)) (p := ⟨gx, 2, none⟩) (Keeps.refl _ _) (.inl rfl) _
      have hzB := kB.size
      have f0 := GA.out.frozen 2
      have q0 := GA.out.cell 2
      have GB := hide (GA.out.set 2 (.int .u64 sl))
      have OW := hide (OW.out.kept kB (fun b hb e => by have := hAo b hb; omega))
      have IR := hide (ir.kept kB (by omega) (fun b hb => by omega))
      have BL := hide (BL.out.kept kB (by omega))
      have KK := hide (KK.out.step kB (fun b hb e => by omega))
      clear k1 kB ir GA
      go_upto_region 10 with fail
      clear f0 q0
      generalize w1.setCell _ _ = wd at *
      have GA := GB
      clear GB
      trace "R10"
      have q0 : wd.cell? ⟨gx, 0, none⟩ = some (.string ⟨kb.toArray⟩) := GA.out.cell 0
      have q1 : wd.cell? ⟨gx, 1, none⟩ = some (.int .u64 ow) := GA.out.cell 1
      have q2 : wd.cell? ⟨gx, 2, none⟩ = some (.int .u64 sl) := GA.out.cell 2
      have p1 : wd.cell? ⟨X5, 1, none⟩ = some (.slice A i cp) := BL.out.cell 1
      have kA := (Keeps.refl (fun _ => False) wd).alloc (.cells #[.string ⟨kb.toArray⟩, .int .u64 ow, .int .u64 sl] 99)
      have HOA := hide (OW.out.kept kA (fun _ _ h => h))
      have HRA := hide (show Rd (wd.alloc (.cells #[.string ⟨kb.toArray⟩, .int .u64 ow, .int .u64 sl] 99)) (wd.alloc (.cells #[.string ⟨kb.toArray⟩, .int .u64 ow, .int .u64 sl] 99)).heap.size (some ⟨wd.heap.size, 0, none⟩) 3 1 (lnCs [⟨⟨kb.toArray⟩, ow, sl⟩]) from (Blk.new wd 99 #[.string ⟨kb.toArray⟩, .int .u64 ow, .int .u64 sl]).rd (xs := [.string ⟨kb.toArray⟩, .int .u64 ow, .int .u64 sl]) (n := 1) (sz := 3) rfl)
      have HBA := hide (BL.out.kept kA (fun h => h))
      have HIA := hide (IR.out.kept kA (fun h => h) (fun _ _ h => h))
      have HKA := hide (KK.out.step kA (fun _ _ h => h.elim))
      have hszW := KK.out.size
      clear OW KK kA BL IR GA
      go_upto_region 11 with (at_builtin; refine wpList_app _ elemE rfl (.tmp 31) (.tmp 33) rfl w0.heap.size (lnCs l) rfl HOA.out _ (m := 1) (lnCs [⟨⟨kb.toArray⟩, ow, sl⟩]) rfl HRA.out (lnCs_one _) (by simp only [maxLen]; omega) (by omega) (by simp; omega) ?_; intro A7 c7 w7 o7 k7 _; rw [← lnCs_app] at o7; have O7 := hide o7; have hX27 : ∀ b, inB A b → w0.heap.size ≤ b := (fun b hb => (HOA.out.inB hb).1); have B7 := hide (HBA.out.kept k7 (fun h => by have := hX27 _ h; omega)); have I7 := hide (HIA.out.kept k7 (fun h => by have := hX27 _ h; omega) (fun b hb h => by have := hX27 _ h; omega)); have K7 := hide (HKA.out.step k7 (fun k hk h => by have := hX27 _ h; omega)); have q14 := B7.out.cell 1; have f14 := B7.out.frozen 1; clear o7 k7)
      clear hX27 HOA HRA HBA HIA HKA
      have kS : Keeps (· = X5) w7 (w7.setCell ⟨X5, 1, none⟩ (.slice A7 (i + 1) c7)) := Keeps.setCell (S := (· = X5)) (p := ⟨X5, 1, none⟩) (Keeps.refl _ _) (.inl rfl) _
      trace "R11"
      have HN : Hid (EntSt w0 X T B X5 L e tot un (i + 1) A7 c7 (w7.setCell ⟨X5, 1, none⟩ (.slice A7 (i + 1) c7))) := hide (by
        unfold EntSt
        rw [HN1.out]
        exact ⟨O7.out.kept kS (fun b hb e => by have := (O7.out.inB hb).1; omega), I7.out.kept kS (by omega) (fun b hb => by omega), B7.out.set 1 _, K7.out.step kS (fun b hb e => Or.inr e)⟩)
      clear kS O7 I7 B7 K7 q14 f14 p1 q0 q1 q2
      generalize w7.setCell _ _ = w8 at *
      go_wp2_with fail
      trace "ROUND"
      go_roundw
      case rel => exact ⟨i + 1, A7, c7, by omega, by go_num, HN⟩
      case measure => simp [intOf]; omega
    · obtain rfl : i = K := by omega
      go_wp2_with fail
      trace "END"
      first | exact ⟨rfl, ⟨A, cp, HS.out⟩, _, _, _, _, _, _, _, _, _, _, _, _, _, _, _, _, _, _, _, rfl⟩ | exact ⟨rfl, A, cp, HS.out, _, _, _, _, _, _, _, _, _, _, _, _, _, _, _, _, _, _, _, rfl⟩
end sdec
end Go.Proofs.Ytaiopdipldaimaa

set_option linter.unusedVariables false
set_option linter.unusedSimpArgs false
namespace Go.Proofs.Ytaiopdipldaimaa
open Go.RowKit Vp
namespace sdec
open rdec (loops LoopPostK NumSt)
noncomputable def lp3 : Code := ((loops Try.f29.body.get!)[2]?.getD .skip)
set_option maxRecDepth 1000000 in
set_option maxHeartbeats 4000000 in
theorem loop3 (w0 : World) (X T B : Nat) (L : List UInt8) (e : Int) (K : Nat) (hK : K ≤ 256) (hBX : B ≤ X) (hX0 : X < w0.heap.size) (hR : IsR w0 X T B L e) (s0 s1 s2 s3 s5 s6 s8 s9 s10 s11 s12 s13 s14 s15 s16 s17 s18 s19 s20 s21 s22 s23 s24 s25 s26 s27 s28 s29 s30 s31 s32 s33 s34 s35 s36 s37 s38 s39 s40 s41 s44 s45 s46 s47 s48 s49 s50 s51 s52 s53 s54 s55 s56 s57 s58 s59 s60 s61 s62 s63 s64 s65 s66 s67 s68 s69 s70 s71 s72 s73 s74 s75 s76 s77 s78 s79 s80 s81 s82 s83 s84 : Value) :
    Code.wp Try.prog (Code.loop lp3) (LoopPostK 4 fun a' w' => ∃ A cp, NumSt w0 X T B L e K A cp w' ∧ (∃ u43 u44 u45 u46 u47 u48 u49 u50 : Value, a' = ⟨#[s0, s1, s2, s3, .pointer (some ⟨X, 0, none⟩), s5, s6, .slice A K cp, s8, s9, s10, s11, s12, s13, s14, s15, s16, s17, s18, s19, s20, s21, s22, s23, s24, s25, s26, s27, s28, s29, s30, s31, s32, s33, s34, s35, s36, s37, s38, s39, s40, s41, .int .i64 (K : Int), u43, u44, u45, u46, u47, u48, u49, u50, s51, s52, s53, s54, s55, s56, s57, s58, s59, s60, s61, s62, s63, s64, s65, s66, s67, s68, s69, s70, s71, s72, s73, s74, s75, s76, s77, s78, s79, s80, s81, s82, s83, s84], []⟩)) ⟨#[s0, s1, s2, s3, .pointer (some ⟨X, 0, none⟩), s5, s6, .slice none 0 0, s8, s9, s10, s11, s12, s13, s14, s15, s16, s17, s18, s19, s20, s21, s22, s23, s24, s25, s26, s27, s28, s29, s30, s31, s32, s33, s34, s35, s36, s37, s38, s39, s40, s41, .int .i64 (K : Int), .int .i64 0, s44, s45, s46, s47, s48, s49, s50, s51, s52, s53, s54, s55, s56, s57, s58, s59, s60, s61, s62, s63, s64, s65, s66, s67, s68, s69, s70, s71, s72, s73, s74, s75, s76, s77, s78, s79, s80, s81, s82, s83, s84], []⟩ w0 := by
  have HR := hide hR
  clear hR
  conv => arg 2; arg 1; whnf
  dsimp only
  go_loopw [7, 43] (fun rv iv wr => ∃ (i : Nat) (A : Option Addr) (cp : Nat), i ≤ K ∧ rv = .slice A i cp ∧ iv = .int .i64 (i : Int) ∧ Hid (NumSt w0 X T B L e i A cp wr)) (fun _ iv _ => K - (intOf iv).toNat)
  case atStart => exact ⟨0, none, 0, by omega, rfl, rfl, hide ⟨Own.nil _ _ _ _, HR.out, Keeps.refl _ _⟩⟩
  case round =>
    obtain ⟨i, A, cp, hi, rfl, rfl, HS⟩ := hrel
    by_cases hlt : i < K
    · have h0 : (i : Int) < (K : Int) := by omega
      have h00 : (0 : Int) ≤ (i : Int) := by omega
      have HNm := hide (snumber_any _ X T B _ _ HS.out.2.1 hBX)
      go_wp2_with fail
      trace "NUMBER"
      refine HNm.out.mono ?_
      rintro e' w1 ⟨rfl, ir, k1⟩
      obtain ⟨ho, hir, hk⟩ := HS.out
      have o1 := ho.kept k1 (fun b hb e => by have := ho.inB hb; omega)
      obtain ⟨z, hz⟩ : ∃ z, z = (numP (numsP i L e).2.1 (numsP i L e).2.2).1 := ⟨_, rfl⟩
      rw [← hz]
      have HZ := hide hz
      have kA := (Keeps.refl (fun _ => False) w1).alloc (.cells #[.int .u64 z] 24)
      have OA := hide (o1.kept kA (fun _ _ h => h))
      have RA := hide (show Rd (w1.alloc (.cells #[.int .u64 z] 24)) (w1.alloc (.cells #[.int .u64 z] 24)).heap.size (some ⟨w1.heap.size, 0, none⟩) 1 1 [.int .u64 z] from (Blk.new w1 24 #[.int .u64 z]).rd (xs := [.int .u64 z]) (n := 1) (sz := 1) rfl)
      have IA := hide (ir.kept kA (fun h => h) (fun _ _ h => h))
      have KA := hide ((hk.trans k1).step0 kA)
      have hw1 : w0.heap.size ≤ w1.heap.size := by have := hk.size; have := k1.size; omega
      clear ho hir hk k1 o1 ir kA hz HNm
      trace "APPEND"
      go_wp2_with (at_builtin; refine wpList_app _ elemZ rfl (.tmp 45) (.tmp 48) rfl w0.heap.size ((numsP i L e).1.map (.int .u64)) rfl OA.out _ (m := 1) [.int .u64 z] rfl RA.out (by simp [Value.oneCell']) (by simp only [maxLen]; omega) (by omega) (by simp; omega) ?_; intro A7 c7 w7 o7 k7 _; have O7 := hide o7; have I7 := hide (IA.out.kept k7 (fun h => by have := (OA.out.inB h).1; omega) (fun b hb h => by have := (OA.out.inB h).1; omega)); have K7 := hide (KA.out.step k7 (fun k hk h => by have := (OA.out.inB h).1; omega)); clear o7 k7)
      trace "ROUND"
      have HN : Hid (NumSt w0 X T B L e (i + 1) A7 c7 w7) := hide (by
        unfold NumSt
        rw [numsP_snoc]
        refine ⟨?_, I7.out, K7.out⟩
        rw [← HZ.out] 
        simpa [List.map_append] using O7.out)
      clear OA RA IA KA O7 I7 K7 HZ
      go_roundw
      case rel => exact ⟨i + 1, A7, c7, by omega, rfl, by go_num, HN⟩
      case measure => simp [intOf]; omega
    · obtain rfl : i = K := by omega
      go_wp2_with fail
      trace "END"
      exact ⟨rfl, A, cp, HS.out, _, _, _, _, _, _, _, _, rfl⟩
noncomputable def lp2 : Code := ((loops Try.f29.body.get!)[1]?.getD .skip)
set_option maxRecDepth 1000000 in
set_option maxHeartbeats 4000000 in
theorem loop2 (w0 : World) (X T B X5 : Nat) (L : List UInt8) (e tot un : Int) (vE : Value) (K : Nat) (hK : K ≤ 4) (hBX : B ≤ X) (hX5 : X ≠ X5) (hB5 : B ≤ X5) (hR : IsR w0 X T B L e)
    (hb : Blk w0 X5 45 #[.int .u64 tot, vE, .int .u64 un, .slice none 0 0]) (s0 s1 s2 s3 s6 s7 s8 s9 s10 s11 s12 s13 s14 s15 s16 s17 s18 s19 s20 s21 s22 s23 s24 s25 s26 s27 s28 s29 s30 s31 s32 s33 s34 s35 s36 s37 s40 s41 s42 s43 s44 s45 s46 s47 s48 s49 s50 s51 s52 s53 s54 s55 s56 s57 s58 s59 s60 s61 s62 s63 s64 s65 s66 s67 s68 s69 s70 s71 s72 s73 s74 s75 s76 s77 s78 s79 s80 s81 s82 s83 s84 : Value) :
    Code.wp Try.prog (Code.loop lp2) (LoopPostK 2 fun a' w' => ∃ R cR Q, DRowSt w0 X T B X5 L e tot un vE K R cR Q w' ∧ (∃ u7 u39 u40 u41 u42 u43 u44 u45 u46 u47 u48 u49 u50 u51 u52 u53 u54 u55 u56 u57 : Value, a' = ⟨#[s0, s1, s2, s3, .pointer (some ⟨X, 0, none⟩), .pointer (some ⟨X5, 0, none⟩), s6, u7, s8, s9, s10, s11, s12, s13, s14, s15, s16, s17, s18, s19, s20, s21, s22, s23, s24, s25, s26, s27, s28, s29, s30, s31, s32, s33, s34, s35, s36, s37, .int .i64 (K : Int), u39, u40, u41, u42, u43, u44, u45, u46, u47, u48, u49, u50, u51, u52, u53, u54, u55, u56, u57, s58, s59, s60, s61, s62, s63, s64, s65, s66, s67, s68, s69, s70, s71, s72, s73, s74, s75, s76, s77, s78, s79, s80, s81, s82, s83, s84], []⟩)) ⟨#[s0, s1, s2, s3, .pointer (some ⟨X, 0, none⟩), .pointer (some ⟨X5, 0, none⟩), s6, s7, s8, s9, s10, s11, s12, s13, s14, s15, s16, s17, s18, s19, s20, s21, s22, s23, s24, s25, s26, s27, s28, s29, s30, s31, s32, s33, s34, s35, s36, s37, .int .i64 (K : Int), .int .i64 0, s40, s41, s42, s43, s44, s45, s46, s47, s48, s49, s50, s51, s52, s53, s54, s55, s56, s57, s58, s59, s60, s61, s62, s63, s64, s65, s66, s67, s68, s69, s70, s71, s72, s73, s74, s75, s76, s77, s78, s79, s80, s81, s82, s83, s84], []⟩ w0 := by
  have hX0 : X < w0.heap.size := by obtain ⟨_, _, _, h1, _⟩ := hR; exact h1.lt
  have hX50 := hb.lt
  have HI := hide (DRowSt.zero (tot := tot) (un := un) hR hb)
  clear hR hb
  conv => arg 2; arg 1; whnf
  dsimp only
  go_loopw [39] (fun iv wr => ∃ (i : Nat) (R : Option Addr) (cR : Nat) (Q : List sp21.Rw), i ≤ K ∧ iv = .int .i64 (i : Int) ∧ Hid (DRowSt w0 X T B X5 L e tot un vE i R cR Q wr)) (fun iv _ => K - (intOf iv).toNat)
  case atStart => exact ⟨0, none, 0, [], by omega, rfl, HI⟩
  case round =>
    obtain ⟨i, R, cR, Q, hi, rfl, HS⟩ := hrel
    by_cases hlt : i < K
    · have h0 : (i : Int) < (K : Int) := by omega
      have h00 : (0 : Int) ≤ (i : Int) := by omega
      obtain ⟨l, L1, e1, hE⟩ : ∃ l L1 e1, drowsP i L e = (l, L1, e1) := ⟨_, _, _, rfl⟩
      obtain ⟨m, L2, e2, hk, hm⟩ := uptoP_nat L1 e1 256 7 (by omega)
      obtain ⟨zs, L3, e3, hs⟩ : ∃ l L3 e3, numsP m L2 e2 = (l, L3, e3) := ⟨_, _, _, rfl⟩
      have HN1 := hide (drowsP_next hE hk hs)
      have hzl : zs.length = m := by have := numsP_len m L2 e2; rw [hs] at this; exact this
      have HU : Hid (∀ z ∈ zs, U z) := hide (by have := numsP_U m L2 e2; rw [hs] at this; exact this)
      obtain ⟨RW, hQl, hQm, ir, BL, KK⟩ : sp21.RwS wr w0.heap.size R cR Q ∧ Q.length = i ∧ Q.map (fun q => q.2.2.2) = l ∧ IsR wr X T B L1 e1 ∧ Blk wr X5 45 #[.int .u64 tot, vE, .int .u64 un, .slice R i cR] ∧ Keeps (fun b => b = X ∨ b = X5) w0 wr := by
        have h := HS.out
        unfold DRowSt at h
        rw [hE] at h
        exact h
      have hwr := KK.size
      have RW := hide RW
      have BL := hide BL
      have KK := hide KK
      have IR := hide ir
      have HQl := hide hQl
      have HQm := hide hQm
      have HK := hide hk
      have HSl := hide hs
      have HZL := hide hzl
      clear ir hk hs hE HS HI hQl hQm hzl
      go_wp2_with fail
      trace "UPTO"
      refine (supto_eq _ X T B L1 e1 256 7 IR.out hBX (by omega) (by omega) (by omega) HK.out).mono ?_
      rintro e' w1 ⟨rfl, ir, k1⟩
      have RW1 := hide (RW.out.kept k1 (fun b hb _ e => by omega))
      have BL := hide (BL.out.kept k1 (by omega))
      have KK := hide (KK.out.step k1 (fun b hb e => .inl e))
      have hz1 := k1.size
      have IR := hide ir
      clear k1 ir RW
      go_wp2_with fail
      trace "L3"
      refine Code.wp_mono ?_ (loop3 w1 X T B L2 e2 m (by omega) hBX (by omega) IR.out _ _ _ _ _ _ _ _ _ _ _ _ _ _ _ _ _ _ _ _ _ _ _ _ _ _ _ _ _ _ _ _ _ _ _ _ _ _ _ _ _ _ _ _ _ _ _ _ _ _ _ _ _ _ _ _ _ _ _ _ _ _ _ _ _ _ _ _ _ _ _ _ _ _ _ _ _ _ _ _ _)
      intro ex a' w2 hex
      cases ex <;> (first | exact hex.elim | skip)
      obtain ⟨rfl, A, cp, hNS, ⟨v43, v44, v45, v46, v47, v48, v49, v50, rfl⟩⟩ := hex
      have ⟨o2, ir2, k2⟩ := hNS
      rw [HSl.out] at o2 ir2
      dsimp only at o2 ir2
      have IR := hide ir2
      have O2 := hide (show Own w2 w1.heap.size 24 1 A zs.length cp (zs.map (.int .u64)) from by rw [HZL.out]; exact o2)
      have BL := hide (BL.out.kept k2 (by omega))
      have KK := hide (KK.out.step k2 (fun b hb e => .inl e))
      have RW2 := hide (RW1.out.kept k2 (fun b hb _ e => by omega))
      have hz2 := k2.size
      have p3 : w2.cell? ⟨X5, 3, none⟩ = some (.slice R i cR) := BL.out.cell 3
      have kA := (Keeps.refl (fun _ => False) w2).alloc (.cells #[.slice A m cp] 31)
      have K12 := hide (k2.step0 kA)
      have HRA := hide (show Rd (w2.alloc (.cells #[.slice A m cp] 31)) (w2.alloc (.cells #[.slice A m cp] 31)).heap.size (some ⟨w2.heap.size, 0, none⟩) 1 1 [.slice A m cp] from (Blk.new w2 31 #[.slice A m cp]).rd (xs := [.slice A m cp]) (n := 1) (sz := 1) rfl)
      have HOA := hide (RW2.out.own.kept kA (fun _ _ h => h))
      rw [HQl.out] at HOA
      have O2 := hide (O2.out.kept kA (fun _ _ h => h))
      have HBA := hide (BL.out.kept kA (fun h => h))
      have HIA := hide (IR.out.kept kA (fun h => h) (fun _ _ h => h))
      have HKA := hide (KK.out.step kA (fun _ _ h => h.elim))
      have hszW := KK.out.size
      clear hNS o2 ir2 k2 kA BL IR RW2 KK
      dsimp only
      go_upto_region 20 with (at_builtin; refine wpList_app _ sp21.elemR rfl (.tmp 52) (.tmp 54) rfl w0.heap.size (Q.map sp21.rwV) rfl HOA.out _ (m := 1) [.slice A m cp] rfl HRA.out (by simp [Value.oneCell']) (by simp only [maxLen]; omega) (by omega) (by simp; omega) ?_; intro A7 c7 w7 o7 k7 _; have O7 := hide o7; have hX27 : ∀ b, inB R b → w0.heap.size ≤ b := (fun b hb => (HOA.out.inB hb).1); have B7 := hide (HBA.out.kept k7 (fun h => by have := hX27 _ h; omega)); have I7 := hide (HIA.out.kept k7 (fun h => by have := hX27 _ h; omega) (fun b hb h => by have := hX27 _ h; omega)); have K7 := hide (HKA.out.step k7 (fun k hk h => by have := hX27 _ h; omega)); have KR7 := hide k7; have q14 := B7.out.cell 3; have f14 := B7.out.frozen 3; clear o7 k7)
      clear hX27 HBA HIA HKA
      have kS : Keeps (· = X5) w7 (w7.setCell ⟨X5, 3, none⟩ (.slice A7 (i + 1) c7)) := Keeps.setCell (S := (· = X5)) (p := ⟨X5, 3, none⟩) (Keeps.refl _ _) (.inl rfl) _
      have HN : Hid (DRowSt w0 X T B X5 L e tot un vE (i + 1) A7 c7 (Q ++ [(A, zs.length, cp, zs)]) (w7.setCell ⟨X5, 3, none⟩ (.slice A7 (i + 1) c7))) := hide (by
        unfold DRowSt
        rw [HN1.out]
        have hr7 := sp21.RwS.snoc RW1.out K12.out (fun b hb => by omega) (Nat.le_refl _) (by omega) O2.out HU.out KR7.out (R' := A7) (c' := c7) (by rw [HQl.out, HZL.out]; exact O7.out)
        refine ⟨hr7.kept kS (fun b hb _ e => by omega), by rw [List.length_append, HQl.out]; rfl, by rw [List.map_append, HQm.out]; rfl, I7.out.kept kS (by omega) (fun b hb => by omega), B7.out.set 3 _, K7.out.step kS (fun b hb e => Or.inr e)⟩)
      clear kS O7 I7 B7 K7 KR7 HOA HRA O2 K12 RW1 q14 f14 p3
      generalize w7.setCell _ _ = w8 at *
      trace "R20"
      go_wp2_with fail
      trace "ROUND"
      go_roundw
      case rel => exact ⟨i + 1, A7, c7, _, by omega, by go_num, HN⟩
      case measure => simp [intOf]; omega
    · obtain rfl : i = K := by omega
      go_wp2_with fail
      trace "END"
      exact ⟨rfl, R, cR, Q, HS.out, _, _, _, _, _, _, _, _, _, _, _, _, _, _, _, _, _, _, _, _, rfl⟩
end sdec
end Go.Proofs.Ytaiopdipldaimaa

set_option linter.unusedVariables false
set_option linter.unusedSimpArgs false
namespace Go.Proofs.Ytaiopdipldaimaa
open Go.RowKit Vp
set_option maxRecDepth 1000000 in
set_option maxHeartbeats 4000000 in
theorem sdecode_any (w : World) (B : Nat) (A : Option Addr) (n c : Nat) (L : List UInt8) (hr : Rd w B A 1 n (L.map by8)) (hB : B ≤ w.heap.size) (hnc : n ≤ c) (hn : n ≤ 140737488351232) :
    Calls Try.prog 29 #[.slice A n c] w (Decs w (decP L)) := by
  obtain ⟨w3, hw3⟩ : ∃ w3, w3 = ((w.alloc (.cells #[.int .u64 0, .slice none 0 0, .int .u64 0, .slice none 0 0] 45)).alloc (.cells #[.slice A n c, .int .i64 0] 107)).alloc (.cells #[.int .u64 0, .slice none 0 0, .int .u64 0, .slice none 0 0] 45) := ⟨_, rfl⟩
  have kw3 : Keeps (fun _ => False) w w3 := by rw [hw3]; exact (((Keeps.refl _ _).alloc _).alloc _).alloc _
  have B2 : Hid (Blk w3 w.heap.size 45 #[.int .u64 0, .slice none 0 0, .int .u64 0, .slice none 0 0]) := hide (by rw [hw3]; exact ((Blk.new _ _ _).alloc _).alloc _)
  have BR : Blk w3 (w.heap.size + 1) 107 #[.slice A n c, .int .i64 0] := by rw [hw3]; exact (Blk.new_at _ _ _ _ (by simp)).alloc _
  have BL : Hid (Blk w3 (w.heap.size + 1 + 1) 45 #[.int .u64 0, .slice none 0 0, .int .u64 0, .slice none 0 0]) := hide (by rw [hw3]; exact Blk.new_at _ _ _ _ (by simp))
  have IR : Hid (IsR w3 (w.heap.size + 1) 107 B L 0) := hide ⟨A, n, c, BR, hr.kept kw3 (fun _ _ h => h), hnc, hn⟩
  have KK := hide kw3
  have HW3 := hide hw3
  have hsz3 : w3.heap.size = w.heap.size + 3 := by rw [hw3]; simp
  obtain ⟨tot, L1, e1, ht⟩ : ∃ x y z, numP L 0 = (x, y, z) := ⟨_, _, _, rfl⟩
  obtain ⟨un, L2, e2, hu⟩ : ∃ x y z, numP L1 e1 = (x, y, z) := ⟨_, _, _, rfl⟩
  obtain ⟨ne, L3, e3, hm, hne⟩ := uptoP_nat L2 e2 96 7 (by omega)
  obtain ⟨es, L4, e4, hes⟩ : ∃ x y z, entsP ne L3 e3 = (x, y, z) := ⟨_, _, _, rfl⟩
  obtain ⟨nr, L5, e5, hm2, hnr⟩ := uptoP_nat L4 e4 4 7 (by omega)
  obtain ⟨rs, L6, e6, hrs⟩ : ∃ x y z, drowsP nr L5 e5 = (x, y, z) := ⟨_, _, _, rfl⟩
  obtain ⟨ef, hef⟩ : ∃ ef, endP L6 e6 = ef := ⟨_, rfl⟩
  have hD : decP L = if ef = 0 then ⟨tot, un, es, rs, 0⟩ else ⟨0, 0, [], [], ef⟩ := by
    unfold decP
    simp only [ht, hu, hm, Int.toNat_natCast, hes, hm2, hrs, hef]
  generalize decP L = D at *
  have HD := hide hD
  have hel : es.length = ne := by have := entsP_len ne L3 e3; rw [hes] at this; exact this
  have HEl := hide hel
  have HT := hide ht
  have HU := hide hu
  have HM := hide hm
  have HEs := hide hes
  have HM2 := hide hm2
  have HRs := hide hrs
  have HEnd := hide hef
  clear hw3 kw3 BR hr ht hu hm hes hm2 hrs hef hD hel
  go_enter Try.func29, Try.ntmps29
  go_upto_region 3 with fail
  trace "R3"
  rw [← HW3.out]
  clear HW3
  generalize hX2 : w.heap.size = X2 at *
  generalize hX : X2 + 1 = X at *
  generalize hX5 : X + 1 = X5 at *
  have hXs : X2 < X ∧ X < X5 ∧ B ≤ X2 := by omega
  have HXs := hide hXs
  have HX2 := hide hX2
  clear hX hX5 hX2 hsz3
  go_wp2_with fail
  refine (snum_eq _ X _ B L 0 IR.out (by omega) HT.out).mono ?_
  rintro e' w1 ⟨rfl, ir, k1⟩
  have B2 := hide (B2.out.kept k1 (by omega))
  have BL := hide (BL.out.kept k1 (by omega))
  have KK := hide (KK.out.step k1 (fun b hb e => by have := HX2.out; omega))
  have kB : Keeps (· = X5) w1 (w1.setCell ⟨X5, 0, none⟩ (.int .u64 tot)) := Keeps.setCell (S := (· = X5)) (p := ⟨X5, 0, none⟩) (Keeps.refl _ _) (.inl rfl) _
  have f0 := BL.out.frozen 0
  have q0 := BL.out.cell 0
  have BL := hide (BL.out.set 0 (.int .u64 tot))
  have B2 := hide (B2.out.kept kB (by omega))
  have IR := hide (ir.kept kB (by omega) (fun b hb => by omega))
  have KK := hide (KK.out.step kB (fun b hb e => by have := HX2.out; omega))
  clear k1 kB ir
  go_upto_region 4 with fail
  clear f0 q0
  generalize w1.setCell _ _ = w4 at *
  trace "R4"
  go_wp2_with fail
  refine (snum_eq _ X _ B L1 e1 IR.out (by omega) HU.out).mono ?_
  rintro e' w1 ⟨rfl, ir, k1⟩
  have B2 := hide (B2.out.kept k1 (by omega))
  have BL := hide (BL.out.kept k1 (by omega))
  have KK := hide (KK.out.step k1 (fun b hb e => by have := HX2.out; omega))
  have kB : Keeps (· = X5) w1 (w1.setCell ⟨X5, 2, none⟩ (.int .u64 un)) := Keeps.setCell (S := (· = X5)) (p := ⟨X5, 2, none⟩) (Keeps.refl _ _) (.inl rfl) _
  have f0 := BL.out.frozen 2
  have q0 := BL.out.cell 2
  have BL := hide (BL.out.set 2 (.int .u64 un))
  have B2 := hide (B2.out.kept kB (by omega))
  have IR := hide (ir.kept kB (by omega) (fun b hb => by omega))
  have KK := hide (KK.out.step kB (fun b hb e => by have := HX2.out; omega))
  clear k1 kB ir
  go_upto_region 5 with fail
  clear f0 q0
  generalize w1.setCell _ _ = w5 at *
  trace "R5"
  go_wp2_with fail
  refine (supto_eq _ X _ B L2 e2 96 7 IR.out (by omega) (by omega) (by omega) (by omega) HM.out).mono ?_
  rintro e' w6 ⟨rfl, ir, k1⟩
  have B2 := hide (B2.out.kept k1 (by omega))
  have BL := hide (BL.out.kept k1 (by omega))
  have KK := hide (KK.out.step k1 (fun b hb e => by have := HX2.out; omega))
  have IR := hide ir
  clear ir
  go_wp2_with fail
  trace "L1"
  refine Code.wp_mono ?_ (sdec.loop1 w6 X _ B X5 L3 e3 tot un ne (by omega) (by omega) (by omega) (by omega) IR.out BL.out _ _ _ _ _ _ _ _ _ _ _ _ _ _ _ _ _ _ _ _ _ _ _ _ _ _ _ _ _ _ _ _ _ _ _ _ _ _ _ _ _ _ _ _ _ _ _ _ _ _ _ _ _ _ _ _ _ _ _ _ _ _ _ _ _ _ _ _ _ _ _ _ _ _ _ _ _ _ _ _ _)
  intro ex a' w7 hex
  cases ex <;> (first | exact hex.elim | skip)
  obtain ⟨rfl, AE, cE, hS, ⟨v6, v19, v20, v21, v22, v23, v24, v25, v26, v27, v28, v29, v30, v31, v32, v33, v34, v35, v36, rfl⟩⟩ := hex
  have hS' : Own w7 w6.heap.size 99 3 AE ne cE (lnCs es) ∧ IsR w7 X 107 B L4 e4 ∧ Blk w7 X5 45 #[.int .u64 tot, .slice AE ne cE, .int .u64 un, .slice none 0 0] ∧ Keeps (fun b => b = X ∨ b = X5) w6 w7 := by
    have h := hS
    unfold EntSt at h
    rw [HEs.out] at h
    exact h
  obtain ⟨oe, ir, bl, k2⟩ := hS'
  have hz6 : X5 < w6.heap.size := BL.out.lt
  have OE := hide (show Own w7 (X5 + 1) 99 3 AE ne cE (lnCs es) from oe.base_le (by omega))
  have IR := hide ir
  have BL := hide bl
  have B2 := hide (B2.out.kept k2 (by omega))
  have KK := hide (KK.out.step k2 (fun b hb e => by have := HX2.out; omega))
  clear oe ir bl k2 hS hz6 k1
  dsimp only
  go_wp2_with fail
  trace "UPTO2"
  refine (supto_eq _ X _ B L4 e4 4 7 IR.out (by omega) (by omega) (by omega) (by omega) HM2.out).mono ?_
  rintro e' w8 ⟨rfl, ir, k1⟩
  have B2 := hide (B2.out.kept k1 (by omega))
  have BL := hide (BL.out.kept k1 (by omega))
  have KK := hide (KK.out.step k1 (fun b hb e => by have := HX2.out; omega))
  have IR := hide ir
  clear ir
  have OE := hide (OE.out.kept k1 (fun b hb e => by have := (OE.out.inB hb).1; omega))
  go_wp2_with fail
  trace "L2"
  refine Code.wp_mono ?_ (sdec.loop2 w8 X _ B X5 L5 e5 tot un (.slice AE ne cE) nr (by omega) (by omega) (by omega) (by omega) IR.out BL.out _ _ _ _ _ _ _ _ _ _ _ _ _ _ _ _ _ _ _ _ _ _ _ _ _ _ _ _ _ _ _ _ _ _ _ _ _ _ _ _ _ _ _ _ _ _ _ _ _ _ _ _ _ _ _ _ _ _ _ _ _ _ _ _ _ _ _ _ _ _ _ _ _ _ _ _ _ _ _ _ _)
  intro ex a' w9 hex
  cases ex <;> (first | exact hex.elim | skip)
  obtain ⟨rfl, R, cR, Q, hS, ⟨y7, y39, y40, y41, y42, y43, y44, y45, y46, y47, y48, y49, y50, y51, y52, y53, y54, y55, y56, y57, rfl⟩⟩ := hex
  have hS' : sp21.RwS w9 w8.heap.size R cR Q ∧ Q.length = nr ∧ Q.map (fun q => q.2.2.2) = rs ∧ IsR w9 X 107 B L6 e6 ∧ Blk w9 X5 45 #[.int .u64 tot, .slice AE ne cE, .int .u64 un, .slice R nr cR] ∧ Keeps (fun b => b = X ∨ b = X5) w8 w9 := by
    have h := hS
    unfold DRowSt at h
    rw [HRs.out] at h
    exact h
  obtain ⟨rw9, hql, hqm, ir, bl, k2⟩ := hS'
  have hz8 : X5 < w8.heap.size := BL.out.lt
  have RW := hide (show sp21.RwS w9 (X5 + 1) R cR Q from rw9.base_le (by omega))
  have OE := hide (OE.out.kept k2 (fun b hb e => by have := (OE.out.inB hb).1; omega))
  have IR := hide ir
  have BL := hide bl
  have B2 := hide (B2.out.kept k2 (by omega))
  have KK := hide (KK.out.step k2 (fun b hb e => by have := HX2.out; omega))
  have HQl := hide hql
  have HQm := hide hqm
  clear rw9 hql hqm ir bl k2 hS hz8 k1
  dsimp only
  obtain ⟨A', n', c', hb', hr', hnc', hn'⟩ := IR.out
  have q0 := hb'.cell 0
  have q1 := hb'.cell 1
  have fq := hb'.frozen 1
  have hl' : L6.length = n' := by simpa using hr'.1
  have HB' := hide hb'
  clear hb' hr' IR
  have HE := HEnd.out
  unfold endP at HE
  rw [hl'] at HE
  clear hl'
  by_cases hz : e6 = 0
  · subst hz
    rw [if_pos rfl] at HE
    by_cases hp : 0 < n'
    · rw [if_pos hp] at HE
      subst HE
      have hp' : (0 : Int) < (n' : Int) := by omega
      have kB : Keeps (· = X) w9 (w9.setCell ⟨X, 1, none⟩ (.int .i64 3)) := Keeps.setCell (S := (· = X)) (p := ⟨X, 1, none⟩) (Keeps.refl _ _) (.inl rfl) _
      have HB' := hide (HB'.out.set 1 (.int .i64 3))
      have B2 := hide (B2.out.kept kB (by omega))
      have BL := hide (BL.out.kept kB (by omega))
      have KK := hide (KK.out.step kB (fun b hb e => by have := HX2.out; omega))
      clear kB hp
      go_upto_region 23 with fail
      trace "R23"
      generalize w9.setCell _ _ = w10 at *
      clear q0 q1 fq
      have q1 : w10.cell? ⟨X, 1, none⟩ = some (.int .i64 3) := HB'.out.cell 1
      have z0 := B2.out.cell 0
      have z1 := B2.out.cell 1
      have z2 := B2.out.cell 2
      have z3 := B2.out.cell 3
      have f0 := B2.out.frozen 0
      have f1 := B2.out.frozen 1
      have f2 := B2.out.frozen 2
      have f3 := B2.out.frozen 3
      go_wp2_with fail
      trace "R24"
      have bS := (((B2.out.set 0 (.int .u64 0)).set 1 (.slice none 0 0)).set 2 (.int .u64 0)).set 3 (.slice none 0 0)
      have kS : Keeps (· = X2) w10 ((((w10.setCell ⟨X2, 0, none⟩ (.int .u64 0)).setCell ⟨X2, 1, none⟩ (.slice none 0 0)).setCell ⟨X2, 2, none⟩ (.int .u64 0)).setCell ⟨X2, 3, none⟩ (.slice none 0 0)) := Keeps.setCell (S := (· = X2)) (p := ⟨X2, 3, none⟩) (Keeps.setCell (S := (· = X2)) (p := ⟨X2, 2, none⟩) (Keeps.setCell (S := (· = X2)) (p := ⟨X2, 1, none⟩) (Keeps.setCell (S := (· = X2)) (p := ⟨X2, 0, none⟩) (Keeps.refl _ _) (.inl rfl) _) (.inl rfl) _) (.inl rfl) _) (.inl rfl) _
      have r0 := bS.cell 0
      have r1 := bS.cell 1
      have r2 := bS.cell 2
      have r3 := bS.cell 3
      have KKx := hide (KK.out.step kS (fun b hb e => by have := HX2.out; omega))
      clear kS
      go_region
      all_goals
        trace "WAY"
        go_wp2_with fail
        clear z0 z1 z2 z3 f0 f1 f2 f3
        generalize (((w10.setCell _ _).setCell _ _).setCell _ _).setCell _ _ = wz at *
        refine bodyPost_ret (v := .tuple #[smV 0 none 0 0 0 none 0 0, .int .i64 3]) (by simp [results, Try.results29, go_sem, r0, r1, r2, r3]) rfl ?_
        have hD := HD.out
        rw [if_neg (by decide)] at hD
        subst hD
        exact ⟨_, rfl, ⟨none, 0, none, 0, [], rfl, Own.nil _ _ _ _, ⟨Own.nil _ _ _ _, fun q hq => (by cases hq), List.Pairwise.nil⟩, rfl⟩, KKx.out.drew⟩
    · rw [if_neg hp] at HE
      subst HE
      have hp' : ¬ (0 : Int) < (n' : Int) := by omega
      clear hp
      go_upto_region 23 with fail
      trace "R23b"
      have z0 := B2.out.cell 0
      have z1 := B2.out.cell 1
      have z2 := B2.out.cell 2
      have z3 := B2.out.cell 3
      have g0 := BL.out.cell 0
      have g1 := BL.out.cell 1
      have g2 := BL.out.cell 2
      have g3 := BL.out.cell 3
      have f0 := B2.out.frozen 0
      have f1 := B2.out.frozen 1
      have f2 := B2.out.frozen 2
      have f3 := B2.out.frozen 3
      skip
      go_wp2_with fail
      trace "FIN"
      have bS := (((B2.out.set 0 (.int .u64 tot)).set 1 (.slice AE ne cE)).set 2 (.int .u64 un)).set 3 (.slice R nr cR)
      have kS : Keeps (· = X2) w9 ((((w9.setCell ⟨X2, 0, none⟩ (.int .u64 tot)).setCell ⟨X2, 1, none⟩ (.slice AE ne cE)).setCell ⟨X2, 2, none⟩ (.int .u64 un)).setCell ⟨X2, 3, none⟩ (.slice R nr cR)) := Keeps.setCell (S := (· = X2)) (p := ⟨X2, 3, none⟩) (Keeps.setCell (S := (· = X2)) (p := ⟨X2, 2, none⟩) (Keeps.setCell (S := (· = X2)) (p := ⟨X2, 1, none⟩) (Keeps.setCell (S := (· = X2)) (p := ⟨X2, 0, none⟩) (Keeps.refl _ _) (.inl rfl) _) (.inl rfl) _) (.inl rfl) _) (.inl rfl) _
      have r0 := bS.cell 0
      have r1 := bS.cell 1
      have r2 := bS.cell 2
      have r3 := bS.cell 3
      have KKx := KK.out.step kS (fun b hb e => by have := HX2.out; omega)
      clear z0 z1 z2 z3 f0 f1 f2 f3 g0 g1 g2 g3
      have OEx := OE.out.kept kS (fun b hb e => by have := (OE.out.inB hb).1; omega)
      have RWx := RW.out.kept kS (fun b hb _ e => by omega)
      clear kS
      generalize (((w9.setCell _ _).setCell _ _).setCell _ _).setCell _ _ = wz at *
      refine bodyPost_ret (v := .tuple #[smV tot AE ne cE un R nr cR, .int .i64 0]) (by simp [results, Try.results29, go_sem, r0, r1, r2, r3]) rfl ?_
      have hD := HD.out
      rw [if_pos trivial] at hD
      subst hD
      refine ⟨_, rfl, ⟨AE, cE, R, cR, Q, ?_, ?_, RWx.base_le (by have := HX2.out; omega), HQm.out⟩, KKx⟩
      · show smV tot AE ne cE un R nr cR = smV tot AE es.length cE un R Q.length cR
        rw [HEl.out, HQl.out]
      · show Own wz w.heap.size _ 3 AE es.length cE (lnCs es)
        rw [HEl.out]
        exact OEx.base_le (by have := HX2.out; omega)
  · rw [if_neg hz] at HE
    subst HE
    have HZ := hide hz
    have hz0 : (e6 == 0) = false := by simpa using hz
    have hz1 : (e6 != 0) = true := by simp [hz]
    clear hz
    go_upto_region 23 with fail
    trace "R23c"
    have z0 := B2.out.cell 0
    have z1 := B2.out.cell 1
    have z2 := B2.out.cell 2
    have z3 := B2.out.cell 3
    have f0 := B2.out.frozen 0
    have f1 := B2.out.frozen 1
    have f2 := B2.out.frozen 2
    have f3 := B2.out.frozen 3
    go_wp2_with fail
    trace "R24"
    have bS := (((B2.out.set 0 (.int .u64 0)).set 1 (.slice none 0 0)).set 2 (.int .u64 0)).set 3 (.slice none 0 0)
    have kS : Keeps (· = X2) w9 ((((w9.setCell ⟨X2, 0, none⟩ (.int .u64 0)).setCell ⟨X2, 1, none⟩ (.slice none 0 0)).setCell ⟨X2, 2, none⟩ (.int .u64 0)).setCell ⟨X2, 3, none⟩ (.slice none 0 0)) := Keeps.setCell (S := (· = X2)) (p := ⟨X2, 3, none⟩) (Keeps.setCell (S := (· = X2)) (p := ⟨X2, 2, none⟩) (Keeps.setCell (S := (· = X2)) (p := ⟨X2, 1, none⟩) (Keeps.setCell (S := (· = X2)) (p := ⟨X2, 0, none⟩) (Keeps.refl _ _) (.inl rfl) _) (.inl rfl) _) (.inl rfl) _) (.inl rfl) _
    have r0 := bS.cell 0
    have r1 := bS.cell 1
    have r2 := bS.cell 2
    have r3 := bS.cell 3
    have KKx := hide (KK.out.step kS (fun b hb e => by have := HX2.out; omega))
    clear kS
    go_region
    all_goals
      trace "WAY"
      go_wp2_with fail
      clear z0 z1 z2 z3 f0 f1 f2 f3
      generalize (((w9.setCell _ _).setCell _ _).setCell _ _).setCell _ _ = wz at *
      refine bodyPost_ret (v := .tuple #[smV 0 none 0 0 0 none 0 0, .int .i64 e6]) (by simp [results, Try.results29, go_sem, r0, r1, r2, r3]) rfl ?_
      have hD := HD.out
      rw [if_neg HZ.out] at hD
      subst hD
      exact ⟨_, rfl, ⟨none, 0, none, 0, [], rfl, Own.nil _ _ _ _, ⟨Own.nil _ _ _ _, fun q hq => (by cases hq), List.Pairwise.nil⟩, rfl⟩, KKx.out.drew⟩
end Go.Proofs.Ytaiopdipldaimaa
