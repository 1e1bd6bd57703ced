/-
  CountminOf: the estimate by any rows of counters; the walk. No conditions beyond those of the statement.
-/
import Derived.Test.YtaiopdipldaimaaLaw16
import Derived.Test.YtaiopdipldaimaaCmO
set_option linter.unusedVariables false
set_option linter.unusedSimpArgs false
namespace Go.Proofs.Ytaiopdipldaimaa
open Go.RowKit

theorem RowsRd.kept {S : Nat → Prop} {w w' : World} {B : Nat} {k : IntKind} {n : Nat} {R : RowsF} (h : RowsRd w B k n R) (kp : Keeps S w w') (hs : ∀ b, b < B → ¬ S b) : RowsRd w' B k n R :=
  fun j hj => ⟨(h j hj).1.kept kp hs, (h j hj).2⟩
theorem Rd.in_ {w : World} {B sz n : Nat} {A : Option Addr} {xs : List Value} (h : Rd w B A sz n xs) : Rd w (max B B) A sz n xs := by rwa [Nat.max_self]
/-- the outer slice and its rows, at once -/
structure RowsAt (w : World) (B : Nat) (A : Option Addr) (m : Nat) (R : RowsF) : Prop where
  out : Rd w B A 1 m ((List.range m).map fun j => .slice (R j).1 (R j).2.1 (R j).2.2.1)
  rows : RowsRd w B .u64 m R
theorem RowsAt.kept {S : Nat → Prop} {w w' : World} {B m : Nat} {A : Option Addr} {R : RowsF} (h : RowsAt w B A m R) (kp : Keeps S w w') (hs : ∀ b, b < B → ¬ S b) : RowsAt w' B A m R := ⟨h.1.kept kp hs, h.2.kept kp hs⟩
theorem RowsAt.more {w : World} {B B' m : Nat} {A : Option Addr} {R : RowsF} (h : RowsAt w B A m R) (hB : B ≤ B') : RowsAt w B' A m R := ⟨h.1.more hB, fun j hj => ⟨(h.2 j hj).1.more hB, (h.2 j hj).2⟩⟩

namespace countminOf
set_option maxRecDepth 100000 in
set_option maxHeartbeats 2000000 in
theorem walk (w : World) (A0 : Option Addr) (n0 c0 : Nat) (R : RowsF) (hr : Rd w w.heap.size A0 1 n0 ((List.range n0).map fun j => .slice (R j).1 (R j).2.1 (R j).2.2.1)) (hrr : RowsRd w w.heap.size .u64 n0 R) (hn0 : n0 * 24 ≤ 140737488351232) (hc0 : n0 ≤ c0)
    (A1 : Option Addr) (n1 c1 : Nat) (ts : List Int) (hr1 : Rd w w.heap.size A1 1 n1 (ts.map (.int .u64))) (ht : ∀ z ∈ ts, 0 ≤ z ∧ z < 18446744073709551616) (hn1 : n1 * 8 ≤ 140737488351232) (hc1 : n1 ≤ c1)
    (A2 : Option Addr) (n2 c2 : Nat) (dz : List Int) (hr2 : Rd w w.heap.size A2 1 n2 (dz.map (.int .i64))) (hz : ∀ z ∈ dz, -9223372036854775808 ≤ z ∧ z < 9223372036854775808) (hn2 : n2 * 8 ≤ 140737488351232) (hc2 : n2 ≤ c2)
    (seed : Int) (s0 : 0 ≤ seed) (s1 : seed < 18446744073709551616) (key : ByteArray) (hw4 : key.size ≤ 9223372036854775807) (hks : key.size ≤ 140737488351232) :
    Calls Try.prog 10 #[.slice A0 n0 c0, .slice A1 n1 c1, .slice A2 n2 c2, .int .u64 seed, .string key] w fun e w' => e = .returned (.bool true) ∧ Below w.heap.size w w' := by
  by_cases hg1 : 8 < n0
  · clear hr hrr hr1 ht hr2 hz
    go_enter Try.func10, Try.ntmps10
    go_wp2_with fail
    refine (awake16 _).mono ?_
    rintro e w1 ⟨rfl, k1⟩
    go_wp2_with fail
    go_ret
    exact ⟨rfl, k1.done⟩
  by_cases hg2 : 40 < n1
  · clear hr hrr hr1 ht hr2 hz
    go_enter Try.func10, Try.ntmps10
    go_wp2_with fail
    refine (awake16 _).mono ?_
    rintro e w1 ⟨rfl, k1⟩
    go_wp2_with fail
    go_ret
    exact ⟨rfl, k1.done⟩
  by_cases hg3 : 100 < key.size
  · clear hr hrr hr1 ht hr2 hz
    go_enter Try.func10, Try.ntmps10
    go_wp2_with fail
    refine (awake16 _).mono ?_
    rintro e w1 ⟨rfl, k1⟩
    go_wp2_with fail
    go_ret
    exact ⟨rfl, k1.done⟩
  have HR := hide (RowsAt.mk hr hrr)
  have HT := hide hr1
  have HTB := hide ht
  have HD := hide (new_deck A2 n2 c2 dz w.heap.size w (Nat.le_refl _) hr2 hz (by omega))
  clear hr hrr hr1 ht hr2 hz
  go_enter Try.func10, Try.ntmps10
  go_wp2_with fail
  go_loop [30] (fun i => ∃ k : Nat, k ≤ n0 ∧ i = .int .i64 k) (fun i => n0 - (intOf i).toNat)
  case atStart => exact ⟨0, by omega, rfl⟩
  case round =>
    obtain ⟨k, hk, rfl⟩ := hrel
    by_cases hlt : k < n0
    · obtain ⟨b, off, rfl, _, hcc⟩ := HR.out.out.2 (by omega)
      have hx := hcc k (.slice (R k).1 (R k).2.1 (R k).2.2.1) (by simp [hlt])
      obtain ⟨Ak, Lk, Ck, hRk⟩ : ∃ a b c, (R k).1 = a ∧ (R k).2.1 = b ∧ (R k).2.2.1 = c := ⟨_, _, _, rfl, rfl, rfl⟩
      rw [hRk.1, hRk.2.1, hRk.2.2] at hx
      clear hcc hRk
      by_cases hbig : 400 < Lk
      · go_wp2_with fail
        refine (awake16 _).mono ?_
        rintro e w1 ⟨rfl, k1⟩
        go_wp2_with fail
        go_ret
        exact ⟨rfl, k1.done⟩
      · go_wp2_with fail
        go_round
        case rel => exact ⟨k + 1, by omega, by go_num⟩
        case measure => simp [intOf]; omega
    · go_wp2_with fail
      refine HD.out.mono ?_
      rintro e w1 ⟨rfl, hd1, k1⟩
      have K1 := hide k1
      clear k1 HD
      go_wp2_with fail
      refine (table_any w.heap.size _ _ hd1).mono ?_
      rintro e w2 ⟨b, zs, rfl, hzl, hzb, hb, hbs, hd2, k2⟩
      have K2 := hide (K1.out.step k2 (fun j hj h => by omega))
      have R2 := hide (HR.out.kept K2.out (fun _ _ h => h))
      have T2 := hide (HT.out.kept K2.out (fun _ _ h => h))
      have hB := K2.out.size
      have TT := hide (Blk.rd hb (show (zs.map (Value.int .u64)).length = 16 * 1 by simp [hzl]))
      have HZB := hide hzb
      have F1 := hide (of_any (c0 := c0) (ct := c1) R2.out.out R2.out.rows (by omega) T2.out HTB.out seed s0 s1 key hks)
      have F2 := hide (fun q => rof_any (w := w2.drewN q) (c0 := c0) (ct := c1) (R2.out.out.drewN q) (R2.out.kept (S := fun _ => False) ((Keeps.refl _ w2).drewN q) (fun _ _ h => h)).rows (by omega) (T2.out.drewN q) HTB.out seed s0 s1 key hks)
      have R3 := hide (R2.out.more hB)
      have F3 := hide (fun q => of_any (w := w2.drewN q) (c0 := c0) (ct := 16) (R3.out.out.drewN q) (R3.out.kept (S := fun _ => False) ((Keeps.refl _ w2).drewN q) (fun _ _ h => h)).rows (by omega) (TT.out.drewN q) HZB.out seed s0 s1 key hks)
      have F4 := hide (fun q => rof_any (w := w2.drewN q) (c0 := c0) (ct := 16) (R3.out.out.drewN q) (R3.out.kept (S := fun _ => False) ((Keeps.refl _ w2).drewN q) (fun _ _ h => h)).rows (by omega) (TT.out.drewN q) HZB.out seed s0 s1 key hks)
      generalize Cmp.ofV (Cmp.rowsL R n0) ts seed key.data.toList = v1 at *
      generalize Cmp.ofV (Cmp.rowsL R n0) zs seed key.data.toList = v2 at *
      clear hb hzl hzb hd1 hd2 k2
      go_wp2_with fail
      refine F1.out.mono ?_
      rintro e w3 ⟨rfl, q1, rfl⟩
      go_wp2_with fail
      refine (F2.out _).mono ?_
      rintro e w3 ⟨rfl, q2, rfl⟩
      go_wp2_with fail
      refine (F3.out _).mono ?_
      rintro e w3 ⟨rfl, q3, rfl⟩
      go_wp2_with fail
      refine (F4.out _).mono ?_
      rintro e w3 ⟨rfl, q4, rfl⟩
      go_wp2_with fail
      refine (awake16 _).mono ?_
      rintro e w4 ⟨rfl, k4⟩
      have K4 := hide ((K2.out.drewN _).trans k4)
      clear k4
      go_wp2_with fail
      go_ret
      exact ⟨rfl, K4.out.done⟩
end countminOf
end Go.Proofs.Ytaiopdipldaimaa
