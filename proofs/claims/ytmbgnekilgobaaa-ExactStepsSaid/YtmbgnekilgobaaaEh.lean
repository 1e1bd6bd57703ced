
/-
  The exact store: Put. No conditions beyond those of the statement.
-/
import Derived.Test.YtmbgnekilgobaaaEg
set_option linter.unusedVariables false
set_option linter.unusedSimpArgs false
namespace Go.Proofs.Ytmbgnekilgobaaa
open Go.RowKit
theorem eput_nil (x : Ln) (w : World) : Calls Try.prog 38 #[.pointer none, enV x] w fun e w' => e = .returned (.int .i64 8) ∧ Keeps (fun _ => False) w w' := by
  go_enter Try.func38, Try.ntmps38
  go_wp2_with fail
  go_ret
  exact ⟨rfl, (Keeps.refl _ _).alloc _⟩
/-- what Put gives -/
def putC (N : Int) (m : Nat) (l : List Ln) (x : Ln) : Int :=
  if (x.key.toList == []) = true then 3 else if foundK l x.key then 10 else if (m : Int) == N then 7 else if fit3 x.lo x.hi 0 then 0 else 12
/-- what Put leaves -/
def putL (N : Int) (m : Nat) (l : List Ln) (x : Ln) : List Ln := if putC N m l x = 0 then l.take (posK l x.key) ++ x :: l.drop (posK l x.key) else l
def putM (N : Int) (m : Nat) (l : List Ln) (x : Ln) : Nat := if putC N m l x = 0 then m + 1 else m
def PutPost (w : World) (B s : Nat) (N : Int) (A : Option Addr) (m : Nat) (l : List Ln) (x : Ln) (e : Ending) (w' : World) : Prop :=
  ∃ A' c', e = .returned (.int .i64 (putC N m l x)) ∧ Blk w' s 93 #[.int .i64 N, .slice A' (putM N m l x) c'] ∧ Ens w' B A' (putM N m l x) c' (putL N m l x) ∧ Keeps (fun k => k = s ∨ inB A k) w w' ∧ (∀ k, inB A' k → inB A k ∨ w.heap.size ≤ k)
theorem PutPost.same {w wx : World} {B s m c : Nat} {N z : Int} {A : Option Addr} {l : List Ln} {x : Ln} (hC : putC N m l x = z) (hz : z ≠ 0) (hb : Blk wx s 93 #[.int .i64 N, .slice A m c]) (ho : Ens wx B A m c l) (hk : Keeps (fun k => k = s ∨ inB A k) w wx) : PutPost w B s N A m l x (.returned (.int .i64 z)) wx := by
  have h1 : putL N m l x = l := by unfold putL; rw [if_neg (by rw [hC]; exact hz)]
  have h2 : putM N m l x = m := by unfold putM; rw [if_neg (by rw [hC]; exact hz)]
  exact ⟨A, c, by rw [hC], by rw [h2]; exact hb, by rw [h1, h2]; exact ho, hk, fun k h => .inl h⟩
set_option maxRecDepth 100000 in
set_option maxHeartbeats 1000000 in
theorem eput_any (w : World) (B s : Nat) (N : Int) (A : Option Addr) (m c : Nat) (l : List Ln) (x : Ln) (hx : U x.lo ∧ U x.hi) (hb : Blk w s 93 #[.int .i64 N, .slice A m c]) (ho : Ens w B A m c l) (hB : B ≤ w.heap.size) (hs : Asc l) (hm : m ≤ 100000) (hsA : ¬ inB A s) :
    Calls Try.prog 38 #[.pointer (some ⟨s, 0, none⟩), enV x] w (PutPost w B s N A m l x) := by
  obtain ⟨w1, hw1⟩ : ∃ w1, w1 = w.alloc (.cells #[.string x.key, .int .u64 x.lo, .int .u64 x.hi] 53) := ⟨_, rfl⟩
  obtain ⟨gx, hgx⟩ : ∃ gx, gx = w.heap.size := ⟨_, rfl⟩
  have k1 : Keeps (fun _ => False) w w1 := by rw [hw1]; exact (Keeps.refl _ _).alloc _
  have x1 : Blk w1 gx 53 (lnC x).toArray := by rw [hw1, hgx]; exact Blk.new _ _ _
  have b1 := hb.kept k1 (fun h => h)
  have o1 := ho.kept k1 (fun _ _ h => h)
  obtain ⟨c0, c1, c2⟩ := ln_cells x1
  have HB := hide b1
  have HO := hide o1
  have HX := hide x1
  have K1 := hide k1
  have HG := hide hgx
  have HW := hide hw1
  clear hb ho x1 b1 o1 k1 hgx hw1
  go_enter Try.func38, Try.ntmps38
  go_upto_region 3 with fail
  rw [← HG.out, ← HW.out]
  rcases e1 : (x.key.toList == []) with _ | _
  · go_wp2_with fail
    refine (find_any w1 _ s N A m c l x.key HB.out (HO.out.rd (by omega)) hs (by omega)).mono ?_
    rintro e w2 ⟨rfl, k2⟩
    have b2 := HB.out.kept k2 (fun h => h)
    have d0 := b2.cell 0
    have d1 := b2.cell 1
    have hsl := b2.lt
    have x2 := HX.out.kept k2 (fun h => h)
    have hxl := x2.lt
    have B2 := hide b2
    have O2 := hide (HO.out.kept k2 (fun _ _ h => h))
    have X2 := hide x2
    have K2 := hide ((K1.out.trans k2).weak (S' := fun k => k = s ∨ inB A k) (fun _ _ h => h.elim))
    clear c0 c1 c2 b2 k2
    obtain ⟨c0, c1, c2⟩ := ln_cells x2
    clear x2
    rcases hf : foundK l x.key with _ | _
    · by_cases hmN : (m : Int) = N
      · have e2 : ((m : Int) == N) = true := by simpa using hmN
        have hC : Hid (putC N m l x = 7) := hide (by unfold putC; rw [e1, hf, e2]; rfl)
        clear hmN
        go_upto_region 8 with fail
        go_quiet (fail)
        go_wp2_with fail
        go_ret
        exact PutPost.same hC.out (by decide) (B2.out.drewN _) (O2.out.drewN _) (K2.out.drewN _)
      · have e2 : ((m : Int) == N) = false := by simpa using hmN
        clear hmN
        rcases hfit : fit3 x.lo x.hi 0 with _ | _
        · have hC : Hid (putC N m l x = 12) := hide (by unfold putC; rw [e1, hf, e2, hfit]; rfl)
          go_upto_region 8 with fail
          go_quiet (fail)
          go_wp2_with fail
          refine (efits_any _ _ 0 hx.1 hx.2 ⟨by omega, by omega⟩ _).mono ?_
          rintro e w3 ⟨rfl, rfl⟩
          rw [hfit]
          go_wp2_with fail
          go_ret
          exact PutPost.same hC.out (by decide) (B2.out.drewN _) (O2.out.drewN _) (K2.out.drewN _)
        · have hC : Hid (putC N m l x = 0) := hide (by unfold putC; rw [e1, hf, e2, hfit]; rfl)
          go_upto_region 8 with fail
          go_quiet (fail)
          go_wp2_with fail
          refine (efits_any _ _ 0 hx.1 hx.2 ⟨by omega, by omega⟩ _).mono ?_
          rintro e w3 ⟨rfl, rfl⟩
          rw [hfit]
          go_upto_region 12 with fail
          obtain ⟨w4, hw4⟩ : ∃ w4 : World, w4 = w2.drewN nq := ⟨_, rfl⟩
          rw [← hw4]
          have b4 : Blk w4 s 93 #[.int .i64 N, .slice A m c] := by rw [hw4]; exact B2.out.drewN _
          have O4 : Hid (Ens w4 B A m c l) := hide (by rw [hw4]; exact O2.out.drewN _)
          have x4 : Blk w4 gx 53 (lnC x).toArray := by rw [hw4]; exact X2.out.drewN _
          have K4 : Hid (Keeps (fun k => k = s ∨ inB A k) w w4) := hide (by rw [hw4]; exact K2.out.drewN _)
          have d4 := b4.cell 1
          have hsl4 := b4.lt
          have hxl4 := x4.lt
          obtain ⟨c40, c41, c42⟩ := ln_cells x4
          have B4 := hide b4
          have HPl : Hid (posK l x.key ≤ m) := hide (by have := posK_le l x.key; have := Lns.len_en O4.out; omega)
          obtain ⟨pk, hpk⟩ : ∃ pk, pk = posK l x.key := ⟨_, rfl⟩
          rw [← hpk] at HPl ⊢
          have HPk := hide hpk
          clear hw4 b4 x4 hpk d0 d1 c0 c1 c2
          go_region_with ((go_at_call 64; refine (ins_any _ B A m c pk l x w4.heap.size (O4.out.kept ((Keeps.refl (fun _ => False) w4).drew.alloc _) (fun _ _ h => h)) (by have := K4.out.size; simp; omega) (Blk.new_at _ _ _ _ (by simp)) (fun h => by have := O4.out.inB h; omega) hm HPl.out).mono ?_; rintro e w6 ⟨A6, c6, rfl, o6, k6, hA6⟩; have O6 := hide o6; have K6 := hide (((Keeps.refl (fun _ => False) w4).drew.alloc (.cells #[.string x.key, .int .u64 x.lo, .int .u64 x.hi] 53)).weak (S' := inB A) (fun _ _ h => h.elim) |>.trans k6); have b6 := B4.out.kept K6.out hsA; have f6 := b6.frozen 1; have d6 := b6.cell 1; have hsl6 := b6.lt; have B6 := hide b6; clear o6 k6 b6))
          all_goals
            have hM : putM N m l x = m + 1 := by unfold putM; rw [if_pos hC.out]
            have hLL : putL N m l x = l.take pk ++ x :: l.drop pk := by unfold putL; rw [if_pos hC.out, HPk.out]
            have K7 : Keeps (fun k => k = s ∨ inB A k) w6 (w6.setCell ⟨s, 1, none⟩ (.slice A6 (m + 1) c6)) := Keeps.setCell (p := ⟨s, 1, none⟩) (Keeps.refl _ _) (.inl (.inl rfl)) _
            have hs6 : ¬ inB A6 s := fun h => (hA6 s h).elim (fun h => hsA h) (fun h => by simp at h; omega)
            have HFin : Hid (PutPost w B s N A m l x (.returned (.int .i64 0)) (w6.setCell ⟨s, 1, none⟩ (.slice A6 (m + 1) c6))) := hide ⟨A6, c6, by rw [hC.out], by rw [hM]; exact B6.out.set 1 _, by rw [hM, hLL]; exact O6.out.kept (Keeps.setCell (S := (· = s)) (p := ⟨s, 1, none⟩) (Keeps.refl _ _) (.inl rfl) _) (fun b hb e => hs6 (e ▸ hb)), (K4.out.trans (K6.out.weak (fun _ _ h => .inr h))).trans K7, fun k hk => by
              rcases hA6 k hk with h | h
              · exact .inl h
              · have := K4.out.size
                simp at h
                exact .inr (by omega)⟩
            clear hM hLL K7 hs6 hA6
            go_wp2_with fail
            go_ret
            exact HFin.out
    · have hC : Hid (putC N m l x = 10) := hide (by unfold putC; rw [e1, hf]; rfl)
      go_wp2_with fail
      go_ret
      exact PutPost.same hC.out (by decide) B2.out O2.out K2.out
  · have hC : Hid (putC N m l x = 3) := hide (by unfold putC; rw [if_pos e1])
    go_wp2_with fail
    go_ret
    exact PutPost.same hC.out (by decide) HB.out HO.out (K1.out.weak (fun _ _ h => h.elim))
end Go.Proofs.Ytmbgnekilgobaaa
