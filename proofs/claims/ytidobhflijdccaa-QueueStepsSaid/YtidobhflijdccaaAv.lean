/-
  arena.find: a live handle, and one that is not. No conditions beyond those of the statement.
-/
import Derived.Test.YtidobhflijdccaaAu
set_option linter.unusedVariables false
set_option linter.unusedSimpArgs false
namespace Go.Proofs.Ytidobhflijdccaa
open Go.RowKit

/-- the slot of a live handle -/
structure Live (s : Ar) (i k : Nat) (age : Int) (c : Cls) (x : Slot) : Prop where
  hc : s.cls[i]? = some c
  hx : c.slots[k]? = some x
  us : x.used = true
  ag : x.age = age

set_option maxRecDepth 100000 in
theorem find_ok (B a : Nat) (s : Ar) (i k C S : Nat) (ha : Int) (c : Cls) (x : Slot) (w : World) (h : IsAr w B a s) (hn : s.cls.length ≤ 8) (hl : c.slots.length ≤ 65536) (hv : Live s i k ha c x) (hC : s.CA = some ⟨C, 0, none⟩) (hS : c.SA = some ⟨S, 0, none⟩) :
    Calls Try.prog 69 #[.pointer (some ⟨a, 0, none⟩), .agg #[.int .i64 i, .int .i64 k, .int .i64 ha]] w fun e w' => e = .returned (.tuple #[.pointer (some ⟨C, i * 4, none⟩), .pointer (some ⟨S, k * 4, none⟩), .int .i64 0]) ∧ Keeps (fun _ => False) w w' := by
  obtain ⟨hc, hhc⟩ : ∃ hc : Int, hc = (i : Int) := ⟨_, rfl⟩
  obtain ⟨hk, hhk⟩ : ∃ hk : Int, hk = (k : Int) := ⟨_, rfl⟩
  have hi : i < s.cls.length := (List.getElem?_eq_some_iff.1 hv.hc).1
  have hkn : k < c.slots.length := (List.getElem?_eq_some_iff.1 hv.hx).1
  obtain ⟨m, hm⟩ : ∃ m, m = s.cls.length := ⟨_, rfl⟩
  obtain ⟨sn, hsn⟩ : ∃ sn, sn = c.slots.length := ⟨_, rfl⟩
  subst hhc hhk
  have k1 := (Keeps.refl (fun _ => False) w).alloc (.cells #[.int .i64 (i : Int), .int .i64 (k : Int), .int .i64 ha] 40)
  have b1 := Blk.new w 40 #[.int .i64 (i : Int), .int .i64 (k : Int), .int .i64 ha]
  have H1 := hide (h.quiet k1)
  have K1 := hide k1
  obtain ⟨⟨q0, q1, q2⟩, ⟨f0, f1, f2⟩, hz⟩ := b1.three
  have c0 := IsArH.classes_cell H1.out
  obtain ⟨HO, HB⟩ := H1.out.open_ hv.hc
  have HOw := HB.sl
  have ow := H1.out.own
  rw [hS, ← hsn] at HOw
  rw [hC, ← hm] at c0
  rw [hC, ← hm] at ow
  obtain ⟨g0, g1, g2, g3⟩ := clsCs_at hv.hc
  have d2 := ow.cell (i * 4 + 2) (by omega)
  rw [g2, hS, ← hsn] at d2
  obtain ⟨g4, g5, g6, g7⟩ := slotCs_at hv.hx
  have p0 := HOw.cell (k * 4) (by omega)
  have p1 := HOw.cell (k * 4 + 1) (by omega)
  rw [g4, hv.ag] at p0
  rw [g5, hv.us] at p1
  have hiI : (i : Int) < (m : Int) := by omega
  have hi0 : (0 : Int) ≤ (i : Int) := by omega
  have hkI : (k : Int) < (sn : Int) := by omega
  have hk0 : (0 : Int) ≤ (k : Int) := by omega
  have e1 : decide ((0 : Int) ≤ (i : Int)) = true := by simp
  have e2 : decide ((0 : Int) ≤ (k : Int)) = true := by simp
  have e3 : decide ((i : Int) < (m : Int)) = true := by simpa using hiI
  have e4 : decide ((k : Int) < (sn : Int)) = true := by simpa using hkI
  clear hv h HO HB HOw ow g0 g1 g2 g3 g4 g5 g6 g7 k1 b1 hm hsn hS hC hi hkn
  go_enter Try.func69, Try.ntmps69
  go_upto_region 3 with fail
  trace "F3"
  go_quiet (fail)
  trace "F3b"
  go_upto_region 4 with fail
  trace "F4"
  go_quiet (fail)
  go_upto_region 5 with fail
  trace "F5"
  go_quiet (fail)
  go_upto_region 6 with fail
  trace "F6"
  go_quiet (fail)
  go_upto_region 7 with fail
  trace "F7"
  go_quiet (fail)
  trace "F7b"
  go_wp2_with fail
  refine bodyPost_ret (v := .tuple #[.pointer (some ⟨C, i * 4, none⟩), .pointer (some ⟨S, k * 4, none⟩), .int .i64 0]) (by simp [results, Try.results69, go_sem]) rfl ?_
  exact ⟨rfl, K1.out.trans (by repeat (first | exact Keeps.refl _ _ | refine Keeps.drewN ?_ _))⟩

set_option maxRecDepth 100000 in
theorem find_stale (B a : Nat) (s : Ar) (hc hk ha : Int) (w : World) (h : IsAr w B a s) (hn : s.cls.length ≤ 8) (hls : ∀ (i : Nat) (c : Cls), s.cls[i]? = some c → c.slots.length ≤ 65536)
    (hst : ∀ (i k : Nat) (c : Cls) (x : Slot), hc = (i : Int) → hk = (k : Int) → ¬ Live s i k ha c x) (hf : 0 ≤ s.faults ∧ s.faults < 4611686018427387904) :
    Calls Try.prog 69 #[.pointer (some ⟨a, 0, none⟩), .agg #[.int .i64 hc, .int .i64 hk, .int .i64 ha]] w fun e w' => e = .returned (.tuple #[.pointer none, .pointer none, .int .i64 9]) ∧ IsAr w' B a { s with faults := s.faults + 1 } ∧ Keeps (ArS B w) w w' := by
  have k1 := (Keeps.refl (fun _ => False) w).alloc (.cells #[.int .i64 hc, .int .i64 hk, .int .i64 ha] 40)
  have b1 := Blk.new w 40 #[.int .i64 hc, .int .i64 hk, .int .i64 ha]
  have H1 := hide (h.quiet k1)
  have K1 := hide k1
  obtain ⟨⟨q0, q1, q2⟩, ⟨f0, f1, f2⟩, hz⟩ := b1.three
  have c0 := IsArH.classes_cell H1.out
  have c9 := IsArH.faults_cell H1.out
  have f9 := H1.out.blk.frozen 9
  have w9 : IntKind.i64.wrap (s.faults + 1) = s.faults + 1 := IntWalk.i64_in _ (by omega)
  have HT : Hid (∀ W, Keeps (fun _ => False) (w.alloc (.cells #[.int .i64 hc, .int .i64 hk, .int .i64 ha] 40)) W → IsAr (W.setCell ⟨a, 9, none⟩ (.int .i64 (s.faults + 1))) B a { s with faults := s.faults + 1 } ∧ Keeps (ArS B w) w (W.setCell ⟨a, 9, none⟩ (.int .i64 (s.faults + 1)))) := by
    intro W kW
    refine ⟨(H1.out.quiet kW).setFaults _, ?_⟩
    have := ((K1.out.trans kW).weak (S' := ArS B w) (fun _ _ h => h.elim)).step (keepsOne W a 9 (.int .i64 (s.faults + 1))) (fun b hb e => by subst e; exact ArS.ar h)
    exact this
  have hw1 : w.heap.size < (w.alloc (.cells #[.int .i64 hc, .int .i64 hk, .int .i64 ha] 40)).heap.size := hz
  obtain ⟨m, hm⟩ : ∃ m, m = s.cls.length := ⟨_, rfl⟩
  rw [← hm] at c0 hn
  by_cases h1 : 0 ≤ hc
  · by_cases h2 : hc < (m : Int)
    · obtain ⟨i, rfl⟩ : ∃ i : Nat, hc = i := ⟨hc.toNat, by omega⟩
      have hi : i < s.cls.length := by rw [← hm]; omega
      obtain ⟨c, hcc⟩ : ∃ c, s.cls[i]? = some c := ⟨s.cls[i], by simp [hi]⟩
      have hl := hls i c hcc
      obtain ⟨HO, HB⟩ := H1.out.open_ hcc
      have ow := H1.out.own
      obtain ⟨C, hC, _⟩ := ow.some_ (by omega)
      rw [hC] at c0 ow
      rw [← hm] at ow
      obtain ⟨g0, g1, g2, g3⟩ := clsCs_at hcc
      have d2 := ow.cell (i * 4 + 2) (by omega)
      rw [g2] at d2
      obtain ⟨sn, hsn⟩ : ∃ sn, sn = c.slots.length := ⟨_, rfl⟩
      rw [← hsn] at d2 hl
      have hiI : (i : Int) < (m : Int) := h2
      have e1 : decide ((0 : Int) ≤ (i : Int)) = true := by simp
      have e3 : decide ((i : Int) < (m : Int)) = true := by simpa using h2
      by_cases h3 : 0 ≤ hk
      · by_cases h4 : hk < (sn : Int)
        · obtain ⟨k, rfl⟩ : ∃ k : Nat, hk = k := ⟨hk.toNat, by omega⟩
          have hkn : k < c.slots.length := by rw [← hsn]; omega
          obtain ⟨x, hx⟩ : ∃ x, c.slots[k]? = some x := ⟨c.slots[k], by simp [hkn]⟩
          have HOw := HB.sl
          obtain ⟨S, hS, _⟩ := HOw.some_ (by omega)
          rw [hS, ← hsn] at HOw
          rw [hS] at d2
          obtain ⟨g4, g5, g6, g7⟩ := slotCs_at hx
          have p0 := HOw.cell (k * 4) (by omega)
          have p1 := HOw.cell (k * 4 + 1) (by omega)
          rw [g4] at p0
          rw [g5] at p1
          have hkI : (k : Int) < (sn : Int) := h4
          have e2 : decide ((0 : Int) ≤ (k : Int)) = true := by simp
          have e4 : decide ((k : Int) < (sn : Int)) = true := by simpa using h4
          by_cases hu : x.used = true
          · have hag : (x.age == ha) = false := by
              have : ¬ x.age = ha := fun e => hst i k c x rfl rfl ⟨hcc, hx, hu, e⟩
              simpa using this
            rw [hu] at p1
            clear h HO HB HOw ow g0 g1 g2 g3 g4 g5 g6 g7 k1 b1 hm hsn hS hC hi hkn hst hls hcc hx hu h1 h2 h3 h4 H1 K1 hw1
            go_enter Try.func69, Try.ntmps69
            go_upto_region 3 with fail
            go_quiet (fail)
            go_upto_region 4 with fail
            go_quiet (fail)
            go_upto_region 5 with fail
            go_quiet (fail)
            go_upto_region 6 with fail
            go_quiet (fail)
            go_upto_region 7 with fail
            go_quiet (fail)
            go_wp2_with fail
            refine bodyPost_ret (v := .tuple #[.pointer none, .pointer none, .int .i64 9]) (by simp [results, Try.results69, go_sem]) rfl ?_
            exact ⟨rfl, HT.out _ (by repeat (first | exact Keeps.refl _ _ | refine Keeps.drewN ?_ _))⟩
          · have hu' : x.used = false := by simpa using hu
            rw [hu'] at p1
            clear h HO HB HOw ow g0 g1 g2 g3 g4 g5 g6 g7 k1 b1 hm hsn hS hC hi hkn hst hls hcc hx hu hu' h1 h2 h3 h4 H1 K1 hw1
            go_enter Try.func69, Try.ntmps69
            go_upto_region 3 with fail
            go_quiet (fail)
            go_upto_region 4 with fail
            go_quiet (fail)
            go_upto_region 5 with fail
            go_quiet (fail)
            go_upto_region 6 with fail
            go_quiet (fail)
            go_upto_region 7 with fail
            go_quiet (fail)
            go_wp2_with fail
            refine bodyPost_ret (v := .tuple #[.pointer none, .pointer none, .int .i64 9]) (by simp [results, Try.results69, go_sem]) rfl ?_
            exact ⟨rfl, HT.out _ (by repeat (first | exact Keeps.refl _ _ | refine Keeps.drewN ?_ _))⟩
        · have e2 : decide ((0 : Int) ≤ hk) = true := by simpa using h3
          have e4 : decide (hk < (sn : Int)) = false := by simpa using h4
          clear h HO HB ow g0 g1 g2 g3 k1 b1 hm hsn hC hi hst hls hcc h1 h2 h3 h4 H1 K1 hw1
          go_enter Try.func69, Try.ntmps69
          go_upto_region 3 with fail
          go_quiet (fail)
          go_upto_region 4 with fail
          go_quiet (fail)
          go_upto_region 5 with fail
          go_quiet (fail)
          go_wp2_with fail
          refine bodyPost_ret (v := .tuple #[.pointer none, .pointer none, .int .i64 9]) (by simp [results, Try.results69, go_sem]) rfl ?_
          exact ⟨rfl, HT.out _ (by repeat (first | exact Keeps.refl _ _ | refine Keeps.drewN ?_ _))⟩
      · have e2 : decide ((0 : Int) ≤ hk) = false := by simpa using h3
        clear h HO HB ow g0 g1 g2 g3 k1 b1 hm hsn hC hi hst hls hcc h1 h2 h3 H1 K1 hw1
        go_enter Try.func69, Try.ntmps69
        go_upto_region 3 with fail
        go_quiet (fail)
        go_upto_region 4 with fail
        go_quiet (fail)
        go_upto_region 5 with fail
        go_quiet (fail)
        go_wp2_with fail
        refine bodyPost_ret (v := .tuple #[.pointer none, .pointer none, .int .i64 9]) (by simp [results, Try.results69, go_sem]) rfl ?_
        exact ⟨rfl, HT.out _ (by repeat (first | exact Keeps.refl _ _ | refine Keeps.drewN ?_ _))⟩
    · have e1 : decide ((0 : Int) ≤ hc) = true := by simpa using h1
      have e3 : decide (hc < (m : Int)) = false := by simpa using h2
      clear h k1 b1 hm hst hls h1 h2 H1 K1 hw1
      go_enter Try.func69, Try.ntmps69
      go_upto_region 3 with fail
      go_quiet (fail)
      go_wp2_with fail
      refine bodyPost_ret (v := .tuple #[.pointer none, .pointer none, .int .i64 9]) (by simp [results, Try.results69, go_sem]) rfl ?_
      exact ⟨rfl, HT.out _ (by repeat (first | exact Keeps.refl _ _ | refine Keeps.drewN ?_ _))⟩
  · have e1 : decide ((0 : Int) ≤ hc) = false := by simpa using h1
    clear h k1 b1 hm hst hls h1 H1 K1 hw1
    go_enter Try.func69, Try.ntmps69
    go_upto_region 3 with fail
    go_quiet (fail)
    go_wp2_with fail
    refine bodyPost_ret (v := .tuple #[.pointer none, .pointer none, .int .i64 9]) (by simp [results, Try.results69, go_sem]) rfl ?_
    exact ⟨rfl, HT.out _ (by repeat (first | exact Keeps.refl _ _ | refine Keeps.drewN ?_ _))⟩
end Go.Proofs.Ytidobhflijdccaa
