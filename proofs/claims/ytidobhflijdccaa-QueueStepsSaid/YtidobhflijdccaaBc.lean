/-
  law 8's example. No conditions beyond those of the statement.
-/
import Derived.Test.YtidobhflijdccaaBb
set_option linter.unusedVariables false
set_option linter.unusedSimpArgs false
namespace Go.Proofs.Ytidobhflijdccaa
open Go.RowKit Cfp
def ex8 : List (Int × Int) := [(16, 2), (64, 1)]
/-- the slices' blocks of an arena that is there -/
theorem IsAr.hasC {w : World} {B a : Nat} {s : Ar} (h : IsAr w B a s) (hn : 0 < s.cls.length) : ∃ C, s.CA = some ⟨C, 0, none⟩ := by
  obtain ⟨C, hC, _⟩ := h.own.some_ hn
  exact ⟨C, hC⟩
theorem IsAr.hasS {w : World} {B a : Nat} {s : Ar} (h : IsAr w B a s) {i : Nat} {c : Cls} (hc : s.cls[i]? = some c) (hn : 0 < c.slots.length) : ∃ S, c.SA = some ⟨S, 0, none⟩ := by
  obtain ⟨S, hS, _⟩ := (h.sl i c (fun e => e) hc).some_ hn
  exact ⟨S, hS⟩
theorem ArS.to {B : Nat} {w w' : World} (k : Keeps (ArS B w) w w') (hB : w.heap.size ≤ B) : Keeps (fun _ => False) w w' := ⟨k.os, k.tape, k.output, k.size, fun b hb _ => k.block b hb (fun h => by have := h.1; omega)⟩
theorem ArS.to0 {B : Nat} {w0 w w' : World} (k0 : Keeps (fun _ => False) w0 w) (k : Keeps (ArS B w) w w') (hB : w0.heap.size ≤ B) : Keeps (fun _ => False) w0 w' :=
  k0.step k (fun b hb h => by have := h.1; omega)
theorem alloc_newk (B a : Nat) (s : Ar) (i C k : Nat) (c : Cls) (size : Int) (w : World) (h : IsAr w B a s) (hn : s.cls.length ≤ 8) (h1 : 1 ≤ size) (hk : fitK s.cls size = i) (hat : At s i C c (-1)) (hkk : c.slots.length = k) (hroom : (k : Int) < c.count) (hl : c.count ≤ 65536)
    (hlive : 0 ≤ c.live ∧ c.live < 4611686018427387904) (hB : B ≤ w.heap.size) :
    Calls Try.prog 22 #[.pointer (some ⟨a, 0, none⟩), .int .i64 size] w fun e w' => e = .returned (.tuple #[.agg #[.int .i64 i, .int .i64 k, .int .i64 1], .int .i64 0]) ∧
      (∃ SA sc, IsAr w' B a { s with cls := s.cls.set i { c with SA := SA, sc := sc, slots := c.slots ++ [Slot.zero.taken], live := c.live + 1 } }) ∧ Keeps (ArS B w) w w' := by
  subst hkk
  exact alloc_new B a s i C c size w h hn h1 hk hat (by omega) hl hlive hB
theorem alloc_freek (B a : Nat) (s : Ar) (i C k : Nat) (c : Cls) (x : Slot) (size ag : Int) (w : World) (h : IsAr w B a s) (hn : s.cls.length ≤ 8) (h1 : 1 ≤ size) (hk : fitK s.cls size = i) (hat : At s i C c k) (hx : c.slots[k]? = some x) (hl : c.slots.length ≤ 65536) (hag : x.age + 1 = ag)
    (hage : 0 ≤ x.age ∧ x.age < 4611686018427387904) (hlive : 0 ≤ c.live ∧ c.live < 4611686018427387904) (hnx : -9223372036854775808 ≤ x.next ∧ x.next < 9223372036854775808) :
    Calls Try.prog 22 #[.pointer (some ⟨a, 0, none⟩), .int .i64 size] w fun e w' => e = .returned (.tuple #[.agg #[.int .i64 i, .int .i64 k, .int .i64 ag], .int .i64 0]) ∧
      IsAr w' B a { s with free := s.free.set i x.next, cls := s.cls.set i { c with slots := c.slots.set k x.taken, live := c.live + 1 } } ∧ Keeps (ArS B w) w w' := by
  subst hag
  exact alloc_free B a s i C k c x size w h hn h1 hk hat hx hl hage hlive hnx
theorem usage_f (B a : Nat) (s : Ar) (w : World) (fa : Int) (h : IsAr w B a s) (hs : Small s) (hf : s.faults = fa) :
    Calls Try.prog 26 #[.pointer (some ⟨a, 0, none⟩)] w fun e w' => ∃ D m, e = .returned (.agg #[.slice D s.cls.length m, .int .i64 (bytesN s.cls s.cls.length), .int .i64 fa]) ∧ Own w' w.heap.size 3 1 D s.cls.length m (livesC s.cls) ∧ Keeps (fun _ => False) w w' := by
  subst hf
  exact usage_any B a s w h hs
theorem field_u (x y z : Value) (w : World) : (Instr.field 46 (.agg #[x, y, z]) 2).run Try.prog w = .ok z w := by
  kernel_rfl
set_option maxRecDepth 100000 in
set_option maxHeartbeats 2000000 in
theorem awake08 (w : World) : Calls Try.prog 16 #[] w fun e w' => e = .returned (.bool true) ∧ Keeps (fun _ => False) w w' := by
  have k1 := (Keeps.refl (fun _ => False) w).alloc (.cells #[.int .i64 16, .int .i64 2, .int .i64 64, .int .i64 1] 37)
  have r1 := (show Blk (w.alloc (.cells #[.int .i64 16, .int .i64 2, .int .i64 64, .int .i64 1] 37)) w.heap.size 37 (prs ex8).toArray from Blk.new _ _ _).rd (n := 2) (sz := 2) rfl
  have HN := hide (anew_ok ex8 rfl (some ⟨w.heap.size, 0, none⟩) 2 2 _ _ r1 (Nat.le_refl _))
  have K1 := hide k1
  clear k1 r1
  go_enter Try.func16, Try.ntmps16
  go_wp2_with fail
  trace "NEW"
  refine HN.out.mono ?_
  rintro e w1 ⟨a, CA, cap, rfl, h1, k1⟩
  obtain ⟨B, hBe⟩ : ∃ B, B = (w.alloc (.cells #[.int .i64 16, .int .i64 2, .int .i64 64, .int .i64 1] 37)).heap.size := ⟨_, rfl⟩
  rw [← hBe] at h1
  have hwB : w.heap.size ≤ B := by rw [hBe]; exact K1.out.size
  obtain ⟨C, hC⟩ := h1.hasC (show 0 < 2 by omega)
  have H1 := hide h1
  have K2 := hide (K1.out.trans k1)
  have hB1 : B ≤ w1.heap.size := by rw [hBe]; exact k1.size
  have HC := hide (show CA = some ⟨C, 0, none⟩ from hC)
  clear h1 k1 K1 hBe HN hC
  go_wp2_with fail
  trace "A1"
  refine (alloc_newk B a _ 0 C 0 (mkC (16, 2)) 10 _ H1.out (by show (2 : Nat) ≤ 8; omega) (by omega) rfl ⟨HC.out, rfl, rfl⟩ rfl (by decide) (by decide) (by decide) hB1).mono ?_
  rintro e w2 ⟨rfl, ⟨SA, sc, h2⟩, k2⟩
  have H3 := hide (h2.quiet ((Keeps.refl _ _).alloc (.cells #[.int .i64 0, .int .i64 0, .int .i64 1] 40)))
  have X3 := hide (Blk.new w2 40 #[.int .i64 0, .int .i64 0, .int .i64 1])
  have K3 := hide ((ArS.to0 K2.out k2 hwB).alloc (.cells #[.int .i64 0, .int .i64 0, .int .i64 1] 40))
  have hB3 : B ≤ (w2.alloc (.cells #[.int .i64 0, .int .i64 0, .int .i64 1] 40)).heap.size := by have := k2.size; simp; omega
  clear h2 k2 H1 K2
  go_upto_region 5 with fail
  trace "R5"
  change Hid (Keeps (fun _ => False) w (w2.alloc (.cells #[.int .i64 0, .int .i64 (0 : Nat), .int .i64 1] 40))) at K3
  simp only [Int.natCast_zero] at K3
  generalize w2.alloc _ = w3 at *
  generalize w2.heap.size = x3 at *
  go_wp2_with fail
  trace "A2"
  refine (alloc_newk B a _ 0 C 1 _ 16 _ H3.out (by show (2 : Nat) ≤ 8; omega) (by omega) rfl ⟨HC.out, rfl, rfl⟩ rfl (by show (1 : Int) < 2; decide) (by show (2 : Int) ≤ 65536; decide) (by show (0 : Int) ≤ 1 ∧ (1 : Int) < 4611686018427387904; decide) hB3).mono ?_
  rintro e w4 ⟨rfl, ⟨SA, sc, h2⟩, k2⟩
  have Y3 := hide (X3.out.kept k2 (ArS.not X3.out (by decide) (by decide) (by decide)))
  have H5 := hide (h2.quiet ((Keeps.refl _ _).alloc (.cells #[.int .i64 0, .int .i64 1, .int .i64 1] 40)))
  have X5 := hide (Blk.new w4 40 #[.int .i64 0, .int .i64 1, .int .i64 1])
  have K5 := hide ((ArS.to0 K3.out k2 hwB).alloc (.cells #[.int .i64 0, .int .i64 1, .int .i64 1] 40))
  have hB5 : B ≤ (w4.alloc (.cells #[.int .i64 0, .int .i64 1, .int .i64 1] 40)).heap.size := by have := k2.size; simp; omega
  clear h2 k2 H3 K3 X3
  go_upto_region 6 with fail
  trace "R6"
  have Y3' := hide (Y3.out.alloc (.cells #[.int .i64 0, .int .i64 1, .int .i64 1] 40))
  clear Y3
  generalize w4.alloc _ = w5 at *
  generalize w4.heap.size = x5 at *
  go_wp2_with fail
  trace "A3"
  refine (alloc_full B a _ 0 C _ 1 _ H5.out (by show (2 : Nat) ≤ 8; omega) (by omega) rfl ⟨HC.out, rfl, rfl⟩ (by show (2 : Int) ≤ 2; decide) (by show (2 : Nat) ≤ 65536; decide) (by show (0 : Int) ≤ 2; decide)).mono ?_
  rintro e w6 ⟨rfl, k2⟩
  have Y7 := hide ((Y3'.out.kept k2 (fun h => h)).alloc (.cells #[.int .i64 0, .int .i64 0, .int .i64 0] 40))
  have X7 := hide ((X5.out.kept k2 (fun h => h)).alloc (.cells #[.int .i64 0, .int .i64 0, .int .i64 0] 40))
  have H7 := hide (H5.out.quiet (k2.alloc (.cells #[.int .i64 0, .int .i64 0, .int .i64 0] 40)))
  have K7 := hide ((K5.out.trans k2).alloc (.cells #[.int .i64 0, .int .i64 0, .int .i64 0] 40))
  have hB7 : B ≤ (w6.alloc (.cells #[.int .i64 0, .int .i64 0, .int .i64 0] 40)).heap.size := by have := k2.size; simp; omega
  clear k2 H5 K5 X5 Y3'
  go_upto_region 7 with fail
  trace "R7"
  generalize w6.alloc _ = w7 at *
  generalize w6.heap.size = x7 at *
  obtain ⟨S, hS⟩ := H7.out.hasS (i := 0) rfl (by show (0 : Nat) < 2; decide)
  have HS := hide hS
  clear hS
  obtain ⟨⟨q0, q1, q2⟩, _, hq⟩ := Y7.out.three
  go_wp2_with fail
  trace "F1"
  refine (free_ok B a _ 0 0 C S 1 (-1) _ _ _ H7.out (by show (2 : Nat) ≤ 8; omega) (by show (2 : Nat) ≤ 65536; decide) ⟨rfl, rfl, rfl, rfl⟩ HC.out HS.out rfl (by show (1 : Int) ≤ 2 ∧ (2 : Int) < 4611686018427387904; decide)).mono ?_
  rintro e w8 ⟨rfl, h2, k2⟩
  have Y8 := hide (Y7.out.kept k2 (ArS.not Y7.out (by decide) (by decide) (by decide)))
  have X8 := hide (X7.out.kept k2 (ArS.not X7.out (by decide) (by decide) (by decide)))
  have H8 := hide h2
  have K8 := hide (ArS.to0 K7.out k2 hwB)
  have hB8 : B ≤ w8.heap.size := Nat.le_trans hB7 k2.size
  clear h2 k2 H7 K7 X7 Y7 q0 q1 q2 HS
  go_wp2_with fail
  trace "A4"
  refine (alloc_freek B a _ 0 C 0 _ _ 5 2 _ H8.out (by show (2 : Nat) ≤ 8; omega) (by omega) rfl ⟨HC.out, rfl, rfl⟩ rfl (by show (2 : Nat) ≤ 65536; decide) rfl (by show (0 : Int) ≤ 1 ∧ (1 : Int) < 4611686018427387904; decide) (by show (0 : Int) ≤ 1 ∧ (1 : Int) < 4611686018427387904; decide) (by show (-9223372036854775808 : Int) ≤ -1 ∧ (-1 : Int) < 9223372036854775808; decide)).mono ?_
  rintro e w9 ⟨rfl, h2, k2⟩
  have Y9 := hide ((Y8.out.kept k2 (ArS.not Y8.out (by decide) (by decide) (by decide))).alloc (.cells #[.int .i64 0, .int .i64 0, .int .i64 2] 40))
  have X9 := hide ((X8.out.kept k2 (ArS.not X8.out (by decide) (by decide) (by decide))).alloc (.cells #[.int .i64 0, .int .i64 0, .int .i64 2] 40))
  have Z9 := hide (Blk.new w9 40 #[.int .i64 0, .int .i64 0, .int .i64 2])
  have H9 := hide (h2.quiet ((Keeps.refl _ _).alloc (.cells #[.int .i64 0, .int .i64 0, .int .i64 2] 40)))
  have K9 := hide ((ArS.to0 K8.out k2 hwB).alloc (.cells #[.int .i64 0, .int .i64 0, .int .i64 2] 40))
  clear h2 k2 H8 K8 X8 Y8
  go_upto_region 9 with fail
  trace "R9"
  generalize w9.alloc _ = w10 at *
  generalize w9.heap.size = x9 at *
  obtain ⟨⟨q0, q1, q2⟩, _, hq⟩ := Y9.out.three
  obtain ⟨⟨r0, r1, r2⟩, _, hr⟩ := X9.out.three
  obtain ⟨⟨s0, s1, s2⟩, _, hs⟩ := Z9.out.three
  go_wp2_with fail
  trace "F2"
  refine (free_stale B a _ 0 0 1 _ H9.out (by show (2 : Nat) ≤ 8; omega) ⟨fun i c hc => ?_, fun i k c x hi hk hl => ?_, by show (0 : Int) ≤ 0 ∧ (0 : Int) < 4611686018427387904; decide⟩).mono ?_
  · rcases i with _ | _ | i
    · injection hc with hc; subst hc; show (2 : Nat) ≤ 65536; decide
    · injection hc with hc; subst hc; show (0 : Nat) ≤ 65536; decide
    · cases hc
  · obtain rfl : i = 0 := by omega
    obtain rfl : k = 0 := by omega
    have h1 := hl.hc
    injection h1 with h1
    subst h1
    have h2 := hl.hx
    injection h2 with h2
    subst h2
    have h3 := hl.ag
    have h4 : (2 : Int) = 1 := h3
    omega
  rintro e w11 ⟨rfl, h2, k2⟩
  have H11 := hide h2
  have K11 := hide (ArS.to0 K9.out k2 hwB)
  have HU := hide (usage_f B a _ w11 1 h2 ⟨by show (2 : Nat) ≤ 8; omega, fun i c hc => by
    rcases i with _ | _ | i
    · injection hc with hc; subst hc; show (0 : Int) ≤ 2 ∧ (2 : Int) ≤ 65536 ∧ (1 : Int) ≤ 16 ∧ (16 : Int) ≤ 4096; decide
    · injection hc with hc; subst hc; show (0 : Int) ≤ 0 ∧ (0 : Int) ≤ 65536 ∧ (1 : Int) ≤ 64 ∧ (64 : Int) ≤ 4096; decide
    · cases hc⟩ rfl)
  clear h2 k2 H9 K9 Y9 X9 Z9 q0 q1 q2 r0 r1 r2 s0 s1 s2
  go_wp2_with fail
  trace "U"
  refine HU.out.mono ?_
  rintro e w12 ⟨D, m, rfl, _, k2⟩
  have K12 := hide (K11.out.trans k2)
  clear k2 HU
  have hfu := fun x y z w => field_u x y z w
  go_wp2_with fail
  trace "END"
  go_ret
  exact ⟨rfl, K12.out⟩
end Go.Proofs.Ytidobhflijdccaa
