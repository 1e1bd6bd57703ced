/-
  pool.Release of a number in use. No conditions beyond those of the statement.
-/
import Derived.Test.YtidobhflijdccaaPo
set_option linter.unusedVariables false
set_option linter.unusedSimpArgs false
namespace Go.Proofs.Ytidobhflijdccaa
open Go.RowKit Cfp
open Go.Maps (string_keyed)
open Go.WideMaps
section
variable {w w' : World} {B p a mb cap : Nat} {n : Int} {E : List PE} {EA : Option Addr} {D D' : KD}
theorem IsPo.mapped (h : IsPo w B p a n E EA cap mb D) (k : Keeps (· = mb) w w') (m : MapIs w' mb D') : IsPo w' B p a n E EA cap mb D' := by
  refine ⟨h.le, h.blk.kept k (fun e => by subst e; exact h.map.not h.blk), h.own.kept k (fun b hb e => ?_), h.lem, m⟩
  subst e
  obtain ⟨cs, h1⟩ := h.own.blk hb
  exact h.map.not h1
theorem keep_map {b : Nat} (h : w.grownBy w' (some b)) : Keeps (· = b) w w' := (Keeps.refl _ w).grown h (fun k e _ => by injection e with e; exact e.symm)
theorem IsAr.mapped {s : Ar} (h : IsAr w B a s) (hp : IsPo w B p a n E EA cap mb D) (k : Keeps (· = mb) w w') : IsAr w' B a s := by
  obtain ⟨es, c, hm⟩ := hp.map.block
  exact IsArH.map h hm k
end
/-- what Release of a number in use gives -/
def PRel (w : World) (B p a mb cap : Nat) (n : Int) (E : List PE) (EA : Option Addr) (D : KD) (s : Ar) (M M2 : Int) (id : Nat) (x : PE) (e : Ending) (w' : World) : Prop :=
  e = .returned (.int .i64 0) ∧ ∃ (E' : List PE) (D' : KD) (s' : Ar) (L' : Nat → List Nat), IsPo w' B p a n E' EA cap mb D' ∧ IsAr w' B a s' ∧ Inv s' L' M2 ∧ PInv E' s' D' M ∧
    ((1 < x.users ∧ E' = E.set id { x with users := x.users - 1 } ∧ s' = s ∧ D' = D) ∨ (x.users = 1 ∧ E' = E.set id { x with users := 0 } ∧ Gone s s' x.h.1 x.h.2.1 ∧ D' = D.del (.string x.key))) ∧ Keeps (PoS B w) w w'
set_option maxRecDepth 100000 in
set_option maxHeartbeats 1000000 in
theorem prelease_ok (w : World) (B p a mb cap : Nat) (n : Int) (E : List PE) (EA : Option Addr) (D : KD) (s : Ar) (M M2 : Int) (L : Nat → List Nat)
    (h : IsPo w B p a n E EA cap mb D) (hA : IsAr w B a s) (hV : Inv s L M2) (v : PInv E s D M) (hM : M < 4611686018427387904) (id : Nat) (x : PE) (hx : E[id]? = some x) (hu : 0 < x.users) (hE : E.length ≤ 1000000) (hB : B ≤ w.heap.size) :
    Calls Try.prog 45 #[.pointer (some ⟨p, 0, none⟩), .int .i64 id] w (PRel w B p a mb cap n E EA D s M M2 id x) := by
  have HT := hide (ptext_ok w B p a mb cap n E EA D s M M2 L h hA hV v id x hx hu hE hB)
  have hid : id < E.length := (List.getElem?_eq_some_iff.1 hx).1
  obtain ⟨g, rfl, _⟩ := h.own.some_ (by omega)
  obtain ⟨hlv, hk1, hk2⟩ := v.lv id x hx hu
  have hus := (v.us id x hx).2
  have H := hide h
  have HA := hide hA
  have HV := hide hV
  have HP := hide v
  have HX := hide hx
  have HL := hide hlv
  obtain ⟨N, hN⟩ : ∃ N, N = E.length := ⟨_, rfl⟩
  rw [← hN] at hid
  have HN := hide hN
  clear h hA hV v hx hN hlv hE
  go_enter Try.func45, Try.ntmps45
  go_wp2_with fail
  trace "TEXT"
  refine HT.out.mono ?_
  rintro e w1 ⟨rfl, k1⟩
  have K1 := hide k1
  have H1 := hide (H.out.quiet k1)
  have HA1 := hide (HA.out.quiet k1)
  have hB1 : B ≤ w1.heap.size := Nat.le_trans hB k1.size
  clear k1 HT H HA
  obtain ⟨⟨p0, p1, p2, p3⟩, hpw⟩ := H1.out.cells
  rw [← HN.out] at p2
  obtain ⟨g0, g1, g2, g3⟩ := peCs_at HX.out
  have q3 := H1.out.own.cell (id * 4 + 3) (by have := HN.out; omega)
  have f3 := H1.out.own.frozen (id * 4 + 3)
  rw [g3] at q3
  have hiI : (id : Int) < (N : Int) := by omega
  have hi00 : (0 : Int) ≤ (id : Int) := by omega
  have ws : IntKind.i64.wrap (x.users - 1) = x.users - 1 := IntWalk.i64_in _ (by omega)
  have kS := keepsOne w1 g (id * 4 + 3) (.int .i64 (x.users - 1))
  have H2 := hide (H1.out.users HX.out (x.users - 1))
  have HA2 := hide (HA1.out.kept kS (fun b hb => by subst hb; exact H1.out.other ⟨_, rfl, rfl⟩))
  have K2 := hide (PoS.quiet K1.out (kS.weak (S' := PoS B w1) (fun b _ hb => by subst hb; exact H1.out.inE ⟨_, rfl, rfl⟩)))
  have hgw : g < w1.heap.size := by
    have hi : inB (some ⟨g, 0, none⟩ : Option Addr) g := ⟨_, rfl, rfl⟩
    exact (H1.out.own.inB hi).2
  clear g3 kS HA1
  go_upto_region 6 with fail
  trace "R6"
  generalize w1.setCell _ _ = w2 at *
  clear p0 p1 p2 p3 q3 f3
  have hxe : Hid ((E.set id { x with users := x.users - 1 })[id]? = some { x with users := x.users - 1 }) := hide (by have := HN.out; simp [show id < E.length by omega])
  obtain ⟨h0, h1, h2, h3⟩ := peCs_at hxe.out
  have q0 := H2.out.own.cell (id * 4) (by have := HN.out; simp; omega)
  have q1 := H2.out.own.cell (id * 4 + 1) (by have := HN.out; simp; omega)
  have q2 := H2.out.own.cell (id * 4 + 2) (by have := HN.out; simp; omega)
  have q3 := H2.out.own.cell (id * 4 + 3) (by have := HN.out; simp; omega)
  rw [h0] at q0
  rw [h1] at q1
  rw [h2] at q2
  rw [h3] at q3
  dsimp only at q0 q1 q2 q3
  have hB2 : B ≤ w2.heap.size := Nat.le_trans hB K2.out.size
  clear h0 h1 h2 h3 g0 g1 g2 hB1 hgw hpw H1 K1
  by_cases h1 : x.users = 1
  · have hd : decide ((0 : Int) < x.users - 1) = false := by simp; omega
    have HH1 := hide h1
    obtain ⟨⟨p0, p1, p2, p3⟩, hpw⟩ := H2.out.cells
    have hkey : keyOf Try.prog 9 (.string ⟨x.key.toArray⟩) = some (.string x.key) := by
      have := key_of (s := ⟨x.key.toArray⟩) (by show x.key.toArray.size ≤ maxLen; simp only [maxLen, List.size_toArray]; omega)
      simpa using this
    have e0 : x.users - 1 = 0 := by omega
    clear h1
    rw [e0] at hd q3 H2 hxe
    rw [e0]
    clear e0
    go_upto_region 9 with (at_delete; refine wpList_delete_own _ rfl _ _ 142 9 rfl 3 (string_keyed Try.underlying9) Try.underlying142 _ mb _ D rfl H2.out.map _ _ rfl hkey ?_; intro w3 hown3 hturn3; have k3 := keep_map hturn3.grown; have H3 := hide (H2.out.mapped k3 (map_tight hown3)); have HA3 := hide (HA2.out.mapped H2.out k3); have K3 := hide (PoS.trans K2.out (k3.weak (S' := PoS B w2) (fun b _ hb => by subst hb; exact H2.out.inM))); clear hown3 hturn3 k3)
    trace "R9"
    clear p0 p1 p2 p3 q0 q1 q2 q3 HA2 hpw hkey
    obtain ⟨⟨p0, p1, p2, p3⟩, hpw⟩ := H3.out.cells
    obtain ⟨h0, h1, h2, h3⟩ := peCs_at hxe.out
    have q0 := H3.out.own.cell (id * 4) (by have := HN.out; simp; omega)
    have q1 := H3.out.own.cell (id * 4 + 1) (by have := HN.out; simp; omega)
    have q2 := H3.out.own.cell (id * 4 + 2) (by have := HN.out; simp; omega)
    rw [h0] at q0
    rw [h1] at q1
    rw [h2] at q2
    dsimp only at q0 q1 q2
    have HF : Hid (∀ wa, Keeps (fun _ => False) w3 wa → Calls Try.prog 25 #[.pointer (some ⟨a, 0, none⟩), .agg #[.int .i64 x.h.1, .int .i64 x.h.2.1, .int .i64 x.h.2.2]] wa fun e w' => e = .returned (.int .i64 0) ∧ Hid (PRel w B p a mb cap n E (some ⟨g, 0, none⟩) D s M M2 id x (.returned (.int .i64 0)) w')) := hide (fun wa ka => by
      refine (free_any B a s L M2 x.h.1 x.h.2.1 x.h.2.2 x.key wa (HA3.out.quiet ka) HV.out HL.out).mono ?_
      rintro e w' ⟨rfl, ⟨s6, L6, h6, v6, g6⟩, k6⟩
      exact ⟨rfl, rfl, _, _, s6, L6, (H3.out.quiet ka).ar k6, h6, v6, HP.out.out HX.out hu g6, .inr ⟨HH1.out, rfl, g6, rfl⟩, PoS.trans K3.out (PoS.quiet ka (PoS.ar k6))⟩)
    clear h0 h1 h2 h3 HA3 K3 H2 K2 hxe H3
    go_region_with ((go_at_call 25; refine (HF.out _ (by first | exact Keeps.refl _ _ | exact (Keeps.refl _ _).drew | exact (Keeps.refl _ _).drewN _)).mono ?_; rintro e w5 ⟨rfl, HR⟩))
    all_goals
      go_wp2_with fail
      go_ret
      exact HR.out
  · have hd : decide ((1 : Int) < x.users) = true := by simp; omega
    have HH1 : Hid (1 < x.users) := hide (by omega)
    clear h1 q0 q1 q2
    go_wp2_with fail
    trace "KEPT"
    go_ret
    exact ⟨rfl, _, _, s, L, H2.out, HA2.out, HV.out, HP.out.users HX.out hu (x.users - 1) (by have := HH1.out; omega) (by omega) (Int.le_refl _), .inl ⟨HH1.out, rfl, rfl, rfl⟩, K2.out⟩
end Go.Proofs.Ytidobhflijdccaa
