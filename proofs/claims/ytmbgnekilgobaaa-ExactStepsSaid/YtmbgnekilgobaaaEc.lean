/-
  The exact store: fits, Add. No conditions beyond those of the statement.
-/
import Derived.Test.YtmbgnekilgobaaaEb
set_option linter.unusedVariables false
set_option linter.unusedSimpArgs false
namespace Go.Proofs.Ytmbgnekilgobaaa
open Go.RowKit
def fit3 (a b c : Int) : Bool := decide (a + b + c ≤ 9223372036854775808)
theorem efits_any (a b c : Int) (ha : U a) (hb : U b) (hc : U c) (w : World) : Calls Try.prog 63 #[.int .u64 a, .int .u64 b, .int .u64 c] w fun e w' => e = .returned (.bool (fit3 a b c)) ∧ w = w' := by
  obtain ⟨a0, a1⟩ := ha
  obtain ⟨b0, b1⟩ := hb
  obtain ⟨c0, c1⟩ := hc
  by_cases h : a + b ≤ 18446744073709551615
  · have hh := Sat.add_yes h
    have HF : Hid (fit3 a b c = Sat.fits (Sat.add a b) c) := hide (by unfold fit3 Sat.fits; rw [hh.1])
    have hs := Sat.add_bd a b a0 b0
    have HA := hide hh.2
    clear hh h
    go_enter Try.func63, Try.ntmps63
    go_wp2_with fail
    refine (Sat.add_any _ _ a0 a1 b0 b1 _).mono ?_
    rintro e w1 ⟨rfl, rfl⟩
    rw [HA.out]
    generalize Sat.add a b = sm at *
    go_wp2_with fail
    refine (Sat.fits_any _ _ hs.1 hs.2 c0 c1 _).mono ?_
    rintro e w1 ⟨rfl, rfl⟩
    go_wp2_with fail
    go_ret
    exact ⟨ret_bool (by rw [HF.out]), rfl⟩
  · have hh := Sat.add_no h
    have HF : Hid (fit3 a b c = false) := hide (by unfold fit3; simp; omega)
    have HA := hide hh.2
    clear hh h
    go_enter Try.func63, Try.ntmps63
    go_wp2_with fail
    refine (Sat.add_any _ _ a0 a1 b0 b1 _).mono ?_
    rintro e w1 ⟨rfl, rfl⟩
    rw [HA.out]
    go_wp2_with fail
    go_ret
    exact ⟨ret_bool (by rw [HF.out]), rfl⟩
theorem set_same {xs : List Value} {i : Nat} {a : Value} (h : xs[i]? = some a) : xs.set i a = xs := by
  refine List.ext_getElem? fun q => ?_
  rw [List.getElem?_set]
  by_cases e : i = q
  · subst e
    rw [if_pos rfl, if_pos (List.getElem?_eq_some_iff.1 h).1, h]
  · rw [if_neg e]
theorem lnCs_lo {l : List Ln} {i : Nat} {x : Ln} (h : l[i]? = some x) (v : Int) : (lnCs l).set (i * 3 + 1) (.int .u64 v) = lnCs (l.set i ⟨x.key, v, x.hi⟩) := by
  obtain ⟨g0, g1, g2⟩ := lnCs_at h
  have := lnCs_set l i ⟨x.key, v, x.hi⟩ (List.getElem?_eq_some_iff.1 h).1
  dsimp only at this
  rw [set_same g0, set_same (by rw [List.getElem?_set, if_neg (by omega)]; exact g2)] at this
  exact this
/-- the numbers of entries -/
def Nums (l : List Ln) : Prop := ∀ x ∈ l, 0 ≤ x.lo ∧ 0 ≤ x.hi ∧ x.lo + x.hi ≤ 9223372036854775808
theorem eadd_nil (k : ByteArray) (v : Int) (w : World) : Calls Try.prog 40 #[.pointer none, .string k, .int .u64 v] w fun e w' => e = .returned (.int .i64 8) ∧ w' = w := by
  go_enter Try.func40, Try.ntmps40
  go_wp2_with fail
  go_ret
  exact ⟨rfl, rfl⟩
/-- what Add gives -/
def addC (l : List Ln) (k : ByteArray) (v : Int) : Int := if foundK l k then (if fit3 (getE l k).lo (getE l k).hi v then 0 else 12) else 8
/-- what Add leaves -/
def addL (l : List Ln) (k : ByteArray) (v : Int) : List Ln := if addC l k v = 0 then l.set (posK l k) ⟨(getE l k).key, (getE l k).lo + v, (getE l k).hi⟩ else l
set_option maxRecDepth 100000 in
set_option maxHeartbeats 1000000 in
theorem eadd_any (w : World) (B s : Nat) (N : Int) (A : Option Addr) (m c : Nat) (l : List Ln) (k : ByteArray) (v : Int) (hv : U v) (hb : Blk w s 93 #[.int .i64 N, .slice A m c]) (ho : Ens w B A m c l) (hs : Asc l) (hu : Nums l) (hm : m ≤ 1000000) (hsA : ¬ inB A s) :
    Calls Try.prog 40 #[.pointer (some ⟨s, 0, none⟩), .string k, .int .u64 v] w fun e w' => e = .returned (.int .i64 (addC l k v)) ∧ Ens w' B A m c (addL l k v) ∧ Keeps (inB A) w w' := by
  have HB := hide hb
  have HO := hide ho
  clear hb ho
  go_enter Try.func40, Try.ntmps40
  go_wp2_with fail
  refine (find_any w _ s N A m c l k HB.out (HO.out.rd (by omega)) hs hm).mono ?_
  rintro e w2 ⟨rfl, k2⟩
  have HO2 := hide (HO.out.kept k2 (fun _ _ h => h))
  have b2 := HB.out.kept k2 (fun h => h)
  have c1 := b2.cell 1
  have hsl := b2.lt
  have K2 := hide (k2.weak (S' := inB A) (fun _ _ h => h.elim))
  clear k2
  rcases hf : foundK l k with _ | _
  · have hC : Hid (addC l k v = 8) := hide (by unfold addC; rw [hf]; rfl)
    have hL : Hid (addL l k v = l) := hide (by unfold addL; rw [hC.out]; rfl)
    go_wp2_with fail
    go_ret
    exact ⟨ret_int (by rw [hC.out]), by rw [hL.out]; exact HO2.out, K2.out⟩
  · obtain ⟨hg1, hg2⟩ := getE_yes hf
    obtain ⟨y, hy⟩ : ∃ y, y = getE l k := ⟨_, rfl⟩
    have hpm : posK l k < m := by have := (List.getElem?_eq_some_iff.1 hg1).1; have := Lns.len_en HO.out; omega
    obtain ⟨g, rfl, _⟩ := Own.some_ HO2.out (by omega)
    rw [← hy] at hg1 hg2
    obtain ⟨p0, p1, p2⟩ := en_at HO2.out hg1
    have hyu := hu y (List.mem_of_getElem? hg1)
    have hpl : (posK l k : Int) < (m : Int) := by omega
    obtain ⟨p, hp⟩ : ∃ p, p = posK l k := ⟨_, rfl⟩
    rw [← hp] at p0 p1 p2 hpl hpm hg1 ⊢
    have HP := hide hp
    have HY := hide hy
    have HG1 := hide hg1
    clear hy hp hg1
    have hsum : U y.lo ∧ U y.hi := by unfold U; omega
    rcases hfit : fit3 y.lo y.hi v with _ | _
    · have hC : Hid (addC l k v = 12) := hide (by unfold addC; rw [hf, ← HY.out, hfit]; rfl)
      have hL : Hid (addL l k v = l) := hide (by unfold addL; rw [hC.out]; rfl)
      have HFt : ∀ W, Calls Try.prog 63 #[.int .u64 y.lo, .int .u64 y.hi, .int .u64 v] W fun e w' => e = .returned (.bool false) ∧ W = w' := fun W => by have := efits_any y.lo y.hi v hsum.1 hsum.2 hv W; rw [hfit] at this; exact this
      have HFt := hide HFt
      go_upto_region 6 with fail
      go_quiet ((go_at_call 63; exact quiet_left (HFt.out _)))
      go_wp2_with fail
      go_ret
      exact ⟨ret_int (by rw [hC.out]), by rw [hL.out]; exact HO2.out.drewN _, K2.out.drewN _⟩
    · have hvs : y.lo + y.hi + v ≤ 9223372036854775808 := by simpa [fit3] using hfit
      have hC : Hid (addC l k v = 0) := hide (by unfold addC; rw [hf, ← HY.out, hfit]; rfl)
      have hL : Hid (addL l k v = l.set p ⟨y.key, y.lo + v, y.hi⟩) := hide (by unfold addL; rw [if_pos hC.out, ← HY.out, HP.out])
      have HFt : ∀ W, Calls Try.prog 63 #[.int .u64 y.lo, .int .u64 y.hi, .int .u64 v] W fun e w' => e = .returned (.bool true) ∧ W = w' := fun W => by have := efits_any y.lo y.hi v hsum.1 hsum.2 hv W; rw [hfit] at this; exact this
      have HFt := hide HFt
      have wv : IntKind.u64.wrap (y.lo + v) = y.lo + v := by rw [IntKind.wrap_u64]; have := hv.1; omega
      have f1 := HO2.out.frozen (p * 3 + 1)
      have o3 := HO2.out.store (p * 3 + 1) (.int .u64 (y.lo + v))
      rw [lnCs_lo HG1.out] at o3
      have O3 := hide o3
      have k3 : Hid (Keeps (inB (some ⟨g, 0, none⟩)) w2 (w2.setCell ⟨g, p * 3 + 1, none⟩ (.int .u64 (y.lo + v)))) := hide (Keeps.setCell (p := ⟨g, p * 3 + 1, none⟩) (Keeps.refl _ _) (.inl ((inB_some _ _ _).2 rfl)) _)
      clear o3
      go_upto_region 6 with fail
      go_quiet ((go_at_call 63; exact quiet_left (HFt.out _)))
      go_wp2_with fail
      go_ret
      exact ⟨ret_int (by rw [hC.out]), by rw [hL.out]; exact O3.out.drewN nq, (K2.out.trans k3.out).drewN nq⟩
end Go.Proofs.Ytmbgnekilgobaaa
