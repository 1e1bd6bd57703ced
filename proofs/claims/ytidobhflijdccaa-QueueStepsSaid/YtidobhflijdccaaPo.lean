/-
  pool.text, Text and Release. No conditions beyond those of the statement.
-/
import Derived.Test.YtidobhflijdccaaPn
set_option linter.unusedVariables false
set_option linter.unusedSimpArgs false
namespace Go.Proofs.Ytidobhflijdccaa
open Go.RowKit Cfp
open Go.Maps (string_keyed)
open Go.WideMaps Go.ChangeShapes Go.WideShapes
/-- a number of a key in use -/
def Used (E : List PE) (z : Int) (id : Nat) (x : PE) : Prop := z = (id : Int) ∧ E[id]? = some x ∧ 0 < x.users
theorem conv_key (w : World) (C m : Nat) (d : List UInt8) (h : ∀ j (hj : j < d.length), w.cell? ⟨C, j, none⟩ = some (.int .u8 (d[j].toNat : Int))) :
    (convert 54 9 (.slice (some ⟨C, 0, none⟩) d.length m)).run Try.prog w = .ok (.string ⟨d.toArray⟩) w := by
  refine run_convert_bytes_back (P := Try.prog) w 54 9 5 ⟨C, 0, none⟩ m d Try.underlying54 Try.underlying5 Try.underlying9 ?_
  intro j hj
  rw [add_plain]
  show w.cell? ⟨C, 0 + j, none⟩ = _
  rw [Nat.zero_add]
  exact h j hj
theorem Own.key {w : World} {base C m : Nat} {d : List UInt8} (o : Own w base 5 1 (some ⟨C, 0, none⟩) d.length m (d.map by8)) (j : Nat) (hj : j < d.length) : w.cell? ⟨C, j, none⟩ = some (.int .u8 (d[j].toNat : Int)) := by
  rw [o.cell j (by omega), List.getElem?_map, List.getElem?_eq_getElem hj]
  rfl
section
variable (w : World) (B p a mb cap : Nat) (n : Int) (E : List PE) (EA : Option Addr) (D : KD) (s : Ar) (M M2 : Int) (L : Nat → List Nat)
set_option maxRecDepth 100000 in
set_option maxHeartbeats 1000000 in
theorem ptext_ok (h : IsPo w B p a n E EA cap mb D) (hA : IsAr w B a s) (hV : Inv s L M2) (v : PInv E s D M) (id : Nat) (x : PE) (hx : E[id]? = some x) (hu : 0 < x.users) (hE : E.length ≤ 1000000) (hB : B ≤ w.heap.size) :
    Calls Try.prog 72 #[.pointer (some ⟨p, 0, none⟩), .int .i64 id] w fun e w' => e = .returned (.tuple #[.string ⟨x.key.toArray⟩, .bool true]) ∧ Keeps (fun _ => False) w w' := by
  obtain ⟨⟨p0, p1, p2, p3⟩, hpw⟩ := h.cells
  have hid : id < E.length := (List.getElem?_eq_some_iff.1 hx).1
  have hi0 : id ≠ 0 := fun e => by subst e; obtain ⟨y, h2, h3⟩ := v.zero; rw [hx] at h2; injection h2 with h2; subst h2; omega
  obtain ⟨g, rfl, _⟩ := h.own.some_ (by omega)
  obtain ⟨g0, g1, g2, g3⟩ := peCs_at hx
  have q0 := h.own.cell (id * 4) (by omega)
  have q1 := h.own.cell (id * 4 + 1) (by omega)
  have q2 := h.own.cell (id * 4 + 2) (by omega)
  have q3 := h.own.cell (id * 4 + 3) (by omega)
  rw [g0] at q0
  rw [g1] at q1
  rw [g2] at q2
  rw [g3] at q3
  obtain ⟨N, hN⟩ : ∃ N, N = E.length := ⟨_, rfl⟩
  rw [← hN] at p2 hid hE
  have hiI : (id : Int) < (N : Int) := by omega
  have hi00 : (0 : Int) ≤ (id : Int) := by omega
  have t1 : decide ((id : Int) < 1) = false := by simp; omega
  have t2 : decide ((N : Int) ≤ (id : Int)) = false := by simp; omega
  have t3 : (x.users == 0) = false := by simp; omega
  obtain ⟨hlv, hk1, hk2⟩ := v.lv id x hx hu
  have HR : Hid (∀ w1, Keeps (fun _ => False) w w1 → Calls Try.prog 33 #[.pointer (some ⟨a, 0, none⟩), .agg #[.int .i64 x.h.1, .int .i64 x.h.2.1, .int .i64 x.h.2.2]] w1 fun e w' => (∃ C m, e = .returned (.tuple #[.slice (some ⟨C, 0, none⟩) x.key.length m, .int .i64 0]) ∧ (convert 54 9 (.slice (some ⟨C, 0, none⟩) x.key.length m)).run Try.prog w' = .ok (.string ⟨x.key.toArray⟩) w') ∧ Keeps (fun _ => False) w w') := hide (fun w1 k1 => by
    refine (read_any B a s L M2 x.h.1 x.h.2.1 x.h.2.2 x.key w1 (hA.quiet k1) hV hlv (Nat.le_trans hB k1.size)).mono ?_
    rintro e w' ⟨⟨D8, m8, rfl, o8⟩, k8⟩
    obtain ⟨C, rfl, _⟩ := o8.some_ (by omega)
    exact ⟨⟨C, m8, rfl, conv_key w' C m8 x.key (fun j hj => o8.key j hj)⟩, k1.trans k8⟩)
  clear h hA hV v hx hN hi0 g0 g1 g2 g3 hlv
  go_enter Try.func72, Try.ntmps72
  go_upto_region 3 with fail
  trace "R3"
  go_region_with ((go_at_call 33; refine (HR.out _ (by first | exact Keeps.refl _ _ | exact (Keeps.refl _ _).drew | exact (Keeps.refl _ _).drewN _)).mono ?_; rintro e w5 ⟨⟨C, m, rfl, hcv⟩, k5⟩))
  all_goals
    go_wp2_with fail
    go_ret2
    exact ⟨rfl, by assumption⟩
theorem ptext_bad (h : IsPo w B p a n E EA cap mb D) (hz : ∀ (id : Nat) (e : PE), E[id]? = some e → 0 ≤ e.users) (z : Int) (hb : -9223372036854775808 ≤ z ∧ z < 9223372036854775808) (hno : ∀ id x, ¬ Used E z id x) (hE : E.length ≤ 1000000) :
    Calls Try.prog 72 #[.pointer (some ⟨p, 0, none⟩), .int .i64 z] w fun e w' => e = .returned (.tuple #[.string ⟨#[]⟩, .bool false]) ∧ w' = w := by
  obtain ⟨⟨p0, p1, p2, p3⟩, hpw⟩ := h.cells
  by_cases h1 : z < 1
  · have t1 : decide (z < 1) = true := by simpa using h1
    clear h hno h1 hz
    go_enter Try.func72, Try.ntmps72
    go_wp2_with fail
    go_ret2
    exact ⟨rfl, rfl⟩
  have t1 : decide (z < 1) = false := by simpa using h1
  by_cases h2 : (E.length : Int) ≤ z
  · have t2 : decide ((E.length : Int) ≤ z) = true := by simpa using h2
    clear h hno h1 h2 hz
    go_enter Try.func72, Try.ntmps72
    go_wp2_with fail
    go_ret2
    exact ⟨rfl, rfl⟩
  obtain ⟨id, rfl⟩ : ∃ id : Nat, z = id := ⟨z.toNat, by omega⟩
  have hid : id < E.length := by omega
  obtain ⟨x, hx⟩ : ∃ x, E[id]? = some x := ⟨E[id]'hid, by simp⟩
  have hu : x.users = 0 := by have := hz id x hx; have := hno id x; unfold Used at this; simp only [hx, true_and] at this; omega
  obtain ⟨g, rfl, _⟩ := h.own.some_ (by omega)
  obtain ⟨_, _, _, g3⟩ := peCs_at hx
  have q3 := h.own.cell (id * 4 + 3) (by omega)
  rw [g3, hu] at q3
  obtain ⟨N, hN⟩ : ∃ N, N = E.length := ⟨_, rfl⟩
  rw [← hN] at p2 hid
  have hiI : (id : Int) < (N : Int) := by omega
  have hi00 : (0 : Int) ≤ (id : Int) := by omega
  have t2 : decide ((N : Int) ≤ (id : Int)) = false := by simp; omega
  clear h hno h1 h2 hz hx hu hN g3
  go_enter Try.func72, Try.ntmps72
  go_wp2_with fail
  go_ret2
  exact ⟨rfl, rfl⟩
theorem pText_ok (h : IsPo w B p a n E EA cap mb D) (hA : IsAr w B a s) (hV : Inv s L M2) (v : PInv E s D M) (id : Nat) (x : PE) (hx : E[id]? = some x) (hu : 0 < x.users) (hE : E.length ≤ 1000000) (hB : B ≤ w.heap.size) :
    Calls Try.prog 40 #[.pointer (some ⟨p, 0, none⟩), .int .i64 id] w fun e w' => e = .returned (.tuple #[.string ⟨x.key.toArray⟩, .int .i64 0]) ∧ Keeps (fun _ => False) w w' := by
  have HT := hide (ptext_ok w B p a mb cap n E EA D s M M2 L h hA hV v id x hx hu hE hB)
  clear h hA hV v hx hu
  go_enter Try.func40, Try.ntmps40
  go_wp2_with fail
  refine HT.out.mono ?_
  rintro e w1 ⟨rfl, k1⟩
  have K1 := hide k1
  clear k1
  go_wp2_with fail
  go_ret2
  exact ⟨rfl, K1.out⟩
theorem pText_bad (h : IsPo w B p a n E EA cap mb D) (hz : ∀ (id : Nat) (e : PE), E[id]? = some e → 0 ≤ e.users) (z : Int) (hb : -9223372036854775808 ≤ z ∧ z < 9223372036854775808) (hno : ∀ id x, ¬ Used E z id x) (hE : E.length ≤ 1000000) :
    Calls Try.prog 40 #[.pointer (some ⟨p, 0, none⟩), .int .i64 z] w fun e w' => e = .returned (.tuple #[.string ⟨#[]⟩, .int .i64 8]) ∧ w' = w := by
  have HT := hide (ptext_bad w B p a mb cap n E EA D h hz z hb hno hE)
  clear h hz hno
  go_enter Try.func40, Try.ntmps40
  go_wp2_with fail
  refine HT.out.mono ?_
  rintro e w1 ⟨rfl, rfl⟩
  go_wp2_with fail
  go_ret2
  exact ⟨rfl, rfl⟩
theorem prelease_bad (h : IsPo w B p a n E EA cap mb D) (hz : ∀ (id : Nat) (e : PE), E[id]? = some e → 0 ≤ e.users) (z : Int) (hb : -9223372036854775808 ≤ z ∧ z < 9223372036854775808) (hno : ∀ id x, ¬ Used E z id x) (hE : E.length ≤ 1000000) :
    Calls Try.prog 45 #[.pointer (some ⟨p, 0, none⟩), .int .i64 z] w fun e w' => e = .returned (.int .i64 8) ∧ w' = w := by
  have HT := hide (ptext_bad w B p a mb cap n E EA D h hz z hb hno hE)
  clear h hz hno
  go_enter Try.func45, Try.ntmps45
  go_wp2_with fail
  refine HT.out.mono ?_
  rintro e w1 ⟨rfl, rfl⟩
  go_wp2_with fail
  go_ret
  exact ⟨rfl, rfl⟩
end
end Go.Proofs.Ytidobhflijdccaa
