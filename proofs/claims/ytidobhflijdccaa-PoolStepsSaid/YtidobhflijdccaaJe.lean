
/-
  The reference's arena: find. No conditions beyond those of the statement.
-/
import Derived.Test.YtidobhflijdccaaJd
import Derived.Deep.RegionHeld3
set_option linter.unusedVariables false
set_option linter.unusedSimpArgs false
namespace Go.Proofs.Ytidobhflijdccaa
open Go.RowKit Cfp
theorem rsl_at {w : World} {B g n c : Nat} {l : List RSl} (h : Own w B 139 5 (some ⟨g, 0, none⟩) n c (rslCs l)) {i : Nat} {x : RSl} (hx : l[i]? = some x) :
    w.cell? ⟨g, i * 5, none⟩ = some (.int .i64 (x.c : Int)) ∧ w.cell? ⟨g, i * 5 + 1, none⟩ = some (.int .i64 (x.k : Int)) ∧ w.cell? ⟨g, i * 5 + 2, none⟩ = some (.int .i64 x.age) ∧ w.cell? ⟨g, i * 5 + 3, none⟩ = some (.bool x.used) ∧ w.cell? ⟨g, i * 5 + 4, none⟩ = some (.slice x.D x.b.length x.dc) := by
  have hi := (List.getElem?_eq_some_iff.1 hx).1
  have hl : l.length = n := by have := h.len; rw [rslCs_len] at this; omega
  obtain ⟨g0, g1, g2, g3, g4⟩ := rslCs_at hx
  exact ⟨(h.cell _ (by omega)).trans g0, (h.cell _ (by omega)).trans g1, (h.cell _ (by omega)).trans g2, (h.cell _ (by omega)).trans g3, (h.cell _ (by omega)).trans g4⟩
section
variable {w : World} {G : Nat → Prop} {b : Nat} {ρ : RA} {LA SA FA : Option Addr} {lc sc fc q : Nat}
theorem RAm.bq (h : RAm w G b ρ LA lc SA sc FA fc q) : b ≠ q := h.blk.ne h.nx (by decide)
theorem RAm.setFaults (h : RAm w G b ρ LA lc SA sc FA fc q) (f : Int) : RAm (w.setCell ⟨b, 4, none⟩ (.int .i64 f)) G b { ρ with faults := f } LA lc SA sc FA fc q := by
  have k := keepsOne w b 4 (.int .i64 f)
  exact ⟨h.blk.set 4 _, h.ls.kept k (fun p hp e => h.ls.ne_blk h.blk (by decide) hp e), h.sl.kept k (fun p hp e => h.sl.ne_blk h.blk (by decide) hp e), h.fr.kept k (fun p hp e => h.fr.ne_blk h.blk (by decide) hp e), h.nx.kept k (fun e => h.bq e.symm),
    fun x hx => (h.da x hx).kept k (fun p hp e => (h.da x hx).ne_blk h.blk (by decide) hp e), h.fq, h.gb, h.gq, h.gs, h.gf, h.gl, h.gd⟩
end
/-- one field differs, at least -/
theorem is_no {hc hk ha : Int} {x : RSl} (h : RSl.is hc hk ha x = false) : x.used = false ∨ (x.used = true ∧ ((x.c : Int) == hc) = false) ∨ (x.used = true ∧ ((x.c : Int) == hc) = true ∧ ((x.k : Int) == hk) = false) ∨ (x.used = true ∧ ((x.c : Int) == hc) = true ∧ ((x.k : Int) == hk) = true ∧ (x.age == ha) = false) := by
  unfold RSl.is at h
  rcases hu : x.used with _ | _
  · exact .inl rfl
  · rcases h1 : ((x.c : Int) == hc) with _ | _
    · exact .inr (.inl ⟨rfl, rfl⟩)
    · rcases h2 : ((x.k : Int) == hk) with _ | _
      · exact .inr (.inr (.inl ⟨rfl, rfl, rfl⟩))
      · rcases h3 : (x.age == ha) with _ | _
        · exact .inr (.inr (.inr ⟨rfl, rfl, rfl, rfl⟩))
        · rw [hu, h1, h2, h3] at h
          cases h
set_option maxRecDepth 100000 in
set_option maxHeartbeats 1000000 in
theorem rfind_yes (w : World) (G : Nat → Prop) (b : Nat) (ρ : RA) (LA : Option Addr) (lc : Nat) (SA : Option Addr) (sc : Nat) (FA : Option Addr) (fc q : Nat) (hc hk ha : Int) (j : Nat) (x : RSl) (h : RAm w G b ρ LA lc SA sc FA fc q) (hm : ρ.slots.length ≤ 1000000) (hj : rfindN ρ hc hk ha = j) (hx : ρ.slots[j]? = some x) :
    Calls Try.prog 70 #[.pointer (some ⟨b, 0, none⟩), .agg #[.int .i64 hc, .int .i64 hk, .int .i64 ha]] w fun e w' => e = .returned (.int .i64 (j : Int)) ∧ Keeps (fun _ => False) w w' := by
  obtain ⟨w1, hw1⟩ : ∃ w1, w1 = w.alloc (.cells #[.int .i64 hc, .int .i64 hk, .int .i64 ha] 40) := ⟨_, rfl⟩
  obtain ⟨gh, hgh⟩ : ∃ gh, gh = w.heap.size := ⟨_, rfl⟩
  have k1 : Keeps (fun _ => False) w w1 := by rw [hw1]; exact (Keeps.refl _ _).alloc _
  have hb1 : Blk w1 gh 40 #[.int .i64 hc, .int .i64 hk, .int .i64 ha] := by rw [hw1, hgh]; exact Blk.new _ _ _
  have h1 := h.quiet k1
  obtain ⟨m, hmm⟩ : ∃ m, m = ρ.slots.length := ⟨_, rfl⟩
  have hjl := (List.getElem?_eq_some_iff.1 hx).1
  have HS := h1.sl
  rw [← hmm] at HS
  obtain ⟨gs, rfl, _⟩ := Own.some_ HS (by omega)
  have d1 := h1.blk.cell 1
  rw [← hmm] at d1
  have hbl := h1.blk.lt
  obtain ⟨⟨q0, q1, q2⟩, _, hql⟩ := hb1.three
  have hxi : RSl.is hc hk ha x = true := by
    have := List.findIdx_getElem (p := RSl.is hc hk ha) (xs := ρ.slots) (w := by unfold rfindN at hj; rw [hj]; exact hjl)
    unfold rfindN at hj
    simp only [hj] at this
    rw [(List.getElem?_eq_some_iff.1 hx).2] at this
    exact this
  have HN : Hid (∀ i, i < j → ∀ y, ρ.slots[i]? = some y → RSl.is hc hk ha y = false) := hide (fun i hi y hy => by
    unfold rfindN at hj
    have h2 := List.getElem?_eq_some_iff.1 hy
    have := List.not_of_lt_findIdx (p := RSl.is hc hk ha) (xs := ρ.slots) (i := i) (by rw [hj]; exact hi)
    rw [h2.2] at this
    simpa using this)
  have HS := hide HS
  have HXI := hide hxi
  have HX := hide hx
  have HG := hide hgh
  have HW := hide hw1
  have K1 := hide k1
  clear h hw1 hgh k1 hb1 h1 hxi hx hj
  go_enter Try.func70, Try.ntmps70
  go_upto_region 1 with fail
  rw [← HG.out, ← HW.out]
  go_upto_region 2 with fail
  go_loopw [11] (fun iv wr => ∃ i kd : Nat, i ≤ j ∧ iv = .int .i64 (i : Int) ∧ wr = w1.drewN kd) (fun iv _ => j + 1 - (intOf iv).toNat)
  case atStart => exact ⟨0, 0, by omega, rfl, rfl⟩
  case round =>
    obtain ⟨i, kd, hi, rfl, rfl⟩ := hrel
    by_cases hlt : i < j
    ·
      have e1 : decide (i < m) = true := by simp; omega
      obtain ⟨y, hy⟩ : ∃ y, ρ.slots[i]? = some y := ⟨ρ.slots[i]'(by omega), List.getElem?_eq_getElem _⟩
      have hno := HN.out i (by omega) y hy
      obtain ⟨c0, c1, c2, c3, c4⟩ := rsl_at HS.out hy
      have hiI : (i : Int) < (m : Int) := by omega
      have hi0 : (0 : Int) ≤ (i : Int) := by omega
      clear hy
      rcases is_no hno with hu | ⟨hu, h1⟩ | ⟨hu, h1, h2⟩ | ⟨hu, h1, h2, h3⟩
      all_goals
        rw [hu] at c3
        clear hno hu
        go_upto_region 4 with fail
        go_quiet (fail)
        go_wp2_with fail
        go_roundw
        case rel => exact ⟨i + 1, kd + nq, by omega, by go_num, by first | rfl | simp [World.drewN, Nat.add_assoc]⟩
        case measure => simp [intOf]; omega
    · obtain rfl : i = j := by omega
      have e1 : decide (i < m) = true := by simp; omega
      obtain ⟨c0, c1, c2, c3, c4⟩ := rsl_at HS.out HX.out
      obtain ⟨u1, u2, u3, u4⟩ := RSl.is_iff.1 HXI.out
      have hiI : (i : Int) < (m : Int) := by omega
      have hi0 : (0 : Int) ≤ (i : Int) := by omega
      rw [u2] at c0
      rw [u3] at c1
      rw [u4] at c2
      rw [u1] at c3
      clear u1 u2 u3 u4
      go_upto_region 4 with fail
      go_quiet (fail)
      go_wp2_with fail
      go_ret
      exact ⟨rfl, (K1.out.drewN _).drewN _⟩
set_option maxRecDepth 100000 in
set_option maxHeartbeats 1000000 in
theorem rfind_no (w : World) (G : Nat → Prop) (b : Nat) (ρ : RA) (LA : Option Addr) (lc : Nat) (SA : Option Addr) (sc : Nat) (FA : Option Addr) (fc q : Nat) (hc hk ha : Int) (h : RAm w G b ρ LA lc SA sc FA fc q) (hm : ρ.slots.length ≤ 1000000) (hj : rfindN ρ hc hk ha = ρ.slots.length) (hf : 0 ≤ ρ.faults ∧ ρ.faults < 4611686018427387904) :
    Calls Try.prog 70 #[.pointer (some ⟨b, 0, none⟩), .agg #[.int .i64 hc, .int .i64 hk, .int .i64 ha]] w fun e w' => e = .returned (.int .i64 (-1)) ∧ RAm w' G b { ρ with faults := ρ.faults + 1 } LA lc SA sc FA fc q ∧ Keeps (RS G w) w w' := by
  obtain ⟨w1, hw1⟩ : ∃ w1, w1 = w.alloc (.cells #[.int .i64 hc, .int .i64 hk, .int .i64 ha] 40) := ⟨_, rfl⟩
  obtain ⟨gh, hgh⟩ : ∃ gh, gh = w.heap.size := ⟨_, rfl⟩
  have k1 : Keeps (fun _ => False) w w1 := by rw [hw1]; exact (Keeps.refl _ _).alloc _
  have hb1 : Blk w1 gh 40 #[.int .i64 hc, .int .i64 hk, .int .i64 ha] := by rw [hw1, hgh]; exact Blk.new _ _ _
  have h1 := h.quiet k1
  obtain ⟨m, hmm⟩ : ∃ m, m = ρ.slots.length := ⟨_, rfl⟩
  have hs0 := h1.sl
  rw [← hmm] at hs0
  have d1 := h1.blk.cell 1
  rw [← hmm] at d1
  have d4 := h1.blk.cell 4
  have f4 := h1.blk.frozen 4
  have hbl := h1.blk.lt
  obtain ⟨⟨q0, q1, q2⟩, _, hql⟩ := hb1.three
  have HN : Hid (∀ i, i < m → ∀ y, ρ.slots[i]? = some y → RSl.is hc hk ha y = false) := hide (fun i hi y hy => by
    unfold rfindN at hj
    rw [List.findIdx_eq_length] at hj
    exact hj y (List.mem_of_getElem? hy))
  have wf : IntKind.i64.wrap (ρ.faults + 1) = ρ.faults + 1 := IntWalk.i64_in _ (by omega)
  have HSf := hide (h1.setFaults (ρ.faults + 1))
  have HKf := hide (keepsOne w1 b 4 (.int .i64 (ρ.faults + 1)))
  have HRS := hide (RS.arena h)
  have HS0 := hide hs0
  have HMM := hide hmm
  have HG := hide hgh
  have HW := hide hw1
  have K1 := hide k1
  clear h hw1 hgh k1 hb1 h1 hj hs0 hmm
  go_enter Try.func70, Try.ntmps70
  go_upto_region 1 with fail
  rw [← HG.out, ← HW.out]
  go_upto_region 2 with fail
  go_loopw [11] (fun iv wr => ∃ i kd : Nat, i ≤ m ∧ iv = .int .i64 (i : Int) ∧ wr = w1.drewN kd) (fun iv _ => m - (intOf iv).toNat)
  case atStart => exact ⟨0, 0, by omega, rfl, rfl⟩
  case round =>
    obtain ⟨i, kd, hi, rfl, rfl⟩ := hrel
    by_cases hlt : i < m
    · obtain ⟨gs, rfl, _⟩ := Own.some_ HS0.out (by omega)
      have HS := HS0
      have hml : m = ρ.slots.length := HMM.out
      have e1 : decide (i < m) = true := by simp; omega
      obtain ⟨y, hy⟩ : ∃ y, ρ.slots[i]? = some y := ⟨ρ.slots[i]'(by omega), List.getElem?_eq_getElem _⟩
      have hno := HN.out i (by omega) y hy
      obtain ⟨c0, c1, c2, c3, c4⟩ := rsl_at HS.out hy
      have hiI : (i : Int) < (m : Int) := by omega
      have hi0 : (0 : Int) ≤ (i : Int) := by omega
      clear hy
      rcases is_no hno with hu | ⟨hu, h1⟩ | ⟨hu, h1, h2⟩ | ⟨hu, h1, h2, h3⟩
      all_goals
        rw [hu] at c3
        clear hno hu
        go_upto_region 4 with fail
        go_quiet (fail)
        go_wp2_with fail
        go_roundw
        case rel => exact ⟨i + 1, kd + nq, by omega, by go_num, by first | rfl | simp [World.drewN, Nat.add_assoc]⟩
        case measure => simp [intOf]; omega
    · have e1 : decide (i < m) = false := by simp; omega
      go_wp2_with fail
      go_ret
      exact ⟨rfl, HSf.out.quiet ((Keeps.refl _ _).drewN kd), ((K1.out.weak (S' := RS G w) (fun _ _ h => h.elim)).step HKf.out (fun p hp e => by rw [e]; exact HRS.out)).drewN kd⟩
end Go.Proofs.Ytidobhflijdccaa
