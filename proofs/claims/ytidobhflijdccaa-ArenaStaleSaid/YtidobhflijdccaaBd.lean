/-
  ArenaStale: a handle that was freed is never live again. No conditions beyond those of the statement.
-/
import Derived.Test.YtidobhflijdccaaBc
set_option linter.unusedVariables false
set_option linter.unusedSimpArgs false
namespace Go.Proofs.Ytidobhflijdccaa
open Go.RowKit Cfp
theorem fitK_set (l : List Cls) (i : Nat) (c c' : Cls) (size : Int) (hc : l[i]? = some c) (hs : c'.size = c.size) : fitK (l.set i c') size = fitK l size := by
  have h1 : ∀ m : List Cls, fitK m size = (m.map Cls.size).findIdx (fun a => decide (size ≤ a)) := fun m => by
    unfold fitK; rw [List.findIdx_map]; rfl
  rw [h1, h1]
  congr 1
  refine List.ext_getElem? fun j => ?_
  rw [List.getElem?_map, List.getElem?_map, List.getElem?_set]
  split
  · next e =>
    subst e
    have := (List.getElem?_eq_some_iff.1 hc).1
    rw [if_pos this, hc, Option.map_some, Option.map_some, hs]
  · rfl
/-- an arena of which one slot was ever allocated, in class i -/
structure St (s : Ar) (i C : Nat) (sz age fr live fa : Int) (us : Bool) (c : Cls) (y : Slot) : Prop where
  hn : s.cls.length ≤ 8
  hC : s.CA = some ⟨C, 0, none⟩
  fit : fitK s.cls sz = i
  hc : s.cls[i]? = some c
  hf : s.free[i]? = some fr
  hy : c.slots = [y]
  hus : y.used = us
  hag : y.age = age
  hlv : c.live = live
  hnx : us = false → y.next = -1
  hfa : s.faults = fa
  cb : 1 ≤ c.size ∧ c.size ≤ 4096
  ot : ∀ (j : Nat) (d : Cls), j ≠ i → s.cls[j]? = some d → d.slots = [] ∧ d.live = 0 ∧ 1 ≤ d.size ∧ d.size ≤ 4096
section
variable {s : Ar} {i C : Nat} {sz age fr live fa : Int} {us : Bool} {c : Cls} {y : Slot}
theorem St.cls8 (h : St s i C sz age fr live fa us c y) : i < s.cls.length := (List.getElem?_eq_some_iff.1 h.hc).1
theorem St.ls (h : St s i C sz age fr live fa us c y) : ∀ (j : Nat) (d : Cls), s.cls[j]? = some d → d.slots.length ≤ 65536 := fun j d hd => by
  by_cases e : j = i
  · subst e; rw [h.hc] at hd; injection hd with hd; subst hd; rw [h.hy]; simp
  · rw [(h.ot j d e hd).1]; decide
theorem St.small (h : St s i C sz age fr live fa us c y) (h0 : 0 ≤ live) (h1 : live ≤ 65536) : Small s := ⟨h.hn, fun j d hd => by
  by_cases e : j = i
  · subst e; rw [h.hc] at hd; injection hd with hd; subst hd; have := h.cb; have := h.hlv; omega
  · have := h.ot j d e hd; omega⟩
theorem St.stale (h : St s i C sz age fr live fa us c y) (ha : Int) (hd : us = false ∨ age ≠ ha) (f0 : 0 ≤ fa) (f1 : fa < 4611686018427387904) : Stale s i 0 ha := by
  refine ⟨h.ls, fun i' k c' x hi hk hl => ?_, by rw [h.hfa]; exact ⟨f0, f1⟩⟩
  obtain rfl : i' = i := by omega
  obtain rfl : k = 0 := by omega
  have h1 := hl.hc
  rw [h.hc] at h1
  injection h1 with h1
  subst h1
  have h2 := hl.hx
  rw [h.hy] at h2
  simp at h2
  subst h2
  rcases hd with hd | hd
  · have := hl.us; rw [h.hus, hd] at this; exact absurd this (by decide)
  · exact hd (by rw [← h.hag]; exact hl.ag)
theorem St.fault (h : St s i C sz age fr live fa us c y) (f : Int) : St { s with faults := f } i C sz age fr live f us c y := ⟨h.hn, h.hC, h.fit, h.hc, h.hf, h.hy, h.hus, h.hag, h.hlv, h.hnx, rfl, h.cb, h.ot⟩
theorem St.next (h : St s i C sz age fr live fa us c y) (hi8 : i < s.free.length) (fr' live' age' : Int) (us' : Bool) (c' : Cls) (y' : Slot) (hy' : c'.slots = [y']) (hs : c'.size = c.size) (hu : y'.used = us') (ha : y'.age = age') (hl : c'.live = live') (hx : us' = false → y'.next = -1) :
    St { s with free := s.free.set i fr', cls := s.cls.set i c' } i C sz age' fr' live' fa us' c' y' := by
  have := h.cls8
  refine ⟨by simpa using h.hn, h.hC, (fitK_set _ _ _ _ _ h.hc hs).trans h.fit, by simp [this], by simp [hi8], hy', hu, ha, hl, hx, h.hfa, by rw [hs]; exact h.cb, fun j d hj hd => ?_⟩
  rw [List.getElem?_set, if_neg (fun e => hj e.symm)] at hd
  exact h.ot j d hj hd
end
/-- allocating takes the slot that was freed -/
theorem st_alloc (B a : Nat) (s : Ar) (i C : Nat) (sz age fa : Int) (c : Cls) (y : Slot) (w : World) (h : IsAr w B a s) (t : St s i C sz age 0 0 fa false c y) (h1 : 1 ≤ sz) (ha : 0 ≤ age ∧ age < 1000000) :
    Calls Try.prog 22 #[.pointer (some ⟨a, 0, none⟩), .int .i64 sz] w fun e w' => e = .returned (.tuple #[.agg #[.int .i64 i, .int .i64 0, .int .i64 (age + 1)], .int .i64 0]) ∧
      (∃ s' c' y', IsAr w' B a s' ∧ St s' i C sz (age + 1) (-1) 1 fa true c' y') ∧ Keeps (ArS B w) w w' := by
  have hi8 : i < s.free.length := by rw [h.fl]; have := t.cls8; have := t.hn; omega
  have hag := t.hag
  have hlv := t.hlv
  have hnx := t.hnx rfl
  refine (alloc_free B a s i C 0 c y sz w h t.hn h1 t.fit ⟨t.hC, t.hc, t.hf⟩ (by rw [t.hy]; rfl) (by rw [t.hy]; simp) (by omega) (by omega) (by omega)).mono ?_
  rintro e w' ⟨rfl, h2, k2⟩
  rw [hnx] at h2
  refine ⟨by rw [hag]; rfl, ⟨_, _, _, h2, t.next hi8 (-1) 1 (age + 1) true { c with slots := c.slots.set 0 y.taken, live := c.live + 1 } y.taken (by simp [t.hy]) rfl rfl (by simp [Slot.taken, hag]) (by simp [hlv]) (fun h => by cases h)⟩, k2⟩
/-- and freeing it makes it the first one again -/
theorem st_free (B a : Nat) (s : Ar) (i C : Nat) (sz age fa : Int) (c : Cls) (y : Slot) (w : World) (h : IsAr w B a s) (t : St s i C sz age (-1) 1 fa true c y) :
    Calls Try.prog 25 #[.pointer (some ⟨a, 0, none⟩), .agg #[.int .i64 i, .int .i64 0, .int .i64 age]] w fun e w' => e = .returned (.int .i64 0) ∧
      (∃ s' c' y', IsAr w' B a s' ∧ St s' i C sz age 0 0 fa false c' y') ∧ Keeps (ArS B w) w w' := by
  have hi8 : i < s.free.length := by rw [h.fl]; have := t.cls8; have := t.hn; omega
  obtain ⟨S, hS⟩ := h.hasS t.hc (by rw [t.hy]; simp)
  have hlv := t.hlv
  refine (free_ok B a s i 0 C S age (-1) c y w h t.hn (by rw [t.hy]; simp) ⟨t.hc, by rw [t.hy]; rfl, t.hus, t.hag⟩ t.hC hS t.hf (by omega)).mono ?_
  rintro e w' ⟨rfl, h2, k2⟩
  exact ⟨rfl, ⟨_, _, _, h2, t.next hi8 0 0 age false { c with slots := c.slots.set 0 (y.freed (-1)), live := c.live - 1 } (y.freed (-1)) (by simp [t.hy]) rfl rfl (by simp [Slot.freed, t.hag]) (by simp [hlv]) (fun h => rfl)⟩, k2⟩
/-- and its old handles are faults -/
theorem st_stale (B a : Nat) (s : Ar) (i C : Nat) (sz age fr live fa ha : Int) (us : Bool) (c : Cls) (y : Slot) (w : World) (h : IsAr w B a s) (t : St s i C sz age fr live fa us c y) (hd : us = false ∨ age ≠ ha) (f0 : 0 ≤ fa) (f1 : fa < 4611686018427387904) :
    Calls Try.prog 25 #[.pointer (some ⟨a, 0, none⟩), .agg #[.int .i64 i, .int .i64 0, .int .i64 ha]] w fun e w' => e = .returned (.int .i64 9) ∧
      (∃ s', IsAr w' B a s' ∧ St s' i C sz age fr live (fa + 1) us c y) ∧ Keeps (ArS B w) w w' :=
  (free_stale B a s i 0 ha w h t.hn (t.stale ha hd f0 f1)).mono fun e w' ⟨he, h2, k2⟩ => ⟨he, ⟨_, h2, by have := t.fault (fa + 1); rw [t.hfa]; exact this⟩, k2⟩

namespace arenaStale
theorem par_fit (l : List (Int × Int)) (n : Nat) (hn : l.length = n) (CA : Option Addr) (cap : Nat) : (parAr l n CA cap).cls = l.map mkC := by
  unfold parAr; rw [← hn, List.take_length]
set_option maxRecDepth 100000 in
set_option maxHeartbeats 3000000 in
theorem main (w : World) (A1 : Option Addr) (n1 c1 : Nat) (zs : List Int) (hd : Rd w w.heap.size A1 1 n1 (zs.map (.int .i64))) (hz : ∀ z ∈ zs, -9223372036854775808 ≤ z ∧ z < 9223372036854775808) (hn1 : n1 ≤ 17592186043904)
    (x : Int) (x0 : 0 ≤ x) (x1 : x < 256) (y : Int) (y0 : 0 ≤ y) (y1 : y < 256) :
    Calls Try.prog 7 #[.slice A1 n1 c1, .int .u8 x, .int .u8 y] w fun e w' => e = .returned (.bool true) ∧ Keeps (fun _ => False) w w' := by
  have HD := hide hd
  clear hd
  go_enter Try.func7, Try.ntmps7
  go_wp2_with fail
  refine (new_deck A1 n1 c1 zs _ w (Nat.le_refl _) HD.out hz (by omega)).mono ?_
  rintro e w1 ⟨rfl, d1, k1⟩
  have K1 := hide k1
  clear k1
  go_wp2_with fail
  refine (two_any _ w.heap.size w1 d1).mono ?_
  rintro e w2 ⟨a, b, D, cD, q, CA, cap, l, n, B0, rfl, hB0, hB2, hA, hln, hn4, hE, hlb, _, _, _, _, _, _, k2⟩
  have hg : w.heap.size < w1.heap.size := d1.lt
  have K2 := hide (K1.out.step k2 (fun b hb e => by omega))
  have HA := hide hA
  have HLn := hide hln
  have HLb := hide (fun c hc => And.intro (hlb c hc) ((classes_bd2 l hE).2 c hc))
  have hwB : w.heap.size ≤ B0 := by omega
  clear K1 d1 hA hln hlb hE k2
  obtain ⟨sz, hsz⟩ : ∃ sz, sz = 1 + y % 40 := ⟨_, rfl⟩
  have hs1 : 1 ≤ sz ∧ sz ≤ 40 := by have := Int.emod_nonneg y (show (40 : Int) ≠ 0 by omega); have := Int.emod_lt_of_pos y (show (0 : Int) < 40 by omega); omega
  have ty : Int.tmod y 40 = y % 40 := Int.tmod_eq_emod_of_nonneg y0
  have wy : IntKind.i64.wrap y = y := IntWalk.i64_in _ (by omega)
  have wy2 : IntKind.i64.wrap (y % 40) = y % 40 := IntWalk.i64_in _ (by omega)
  have wsz : IntKind.i64.wrap (1 + y % 40) = sz := by rw [hsz]; exact IntWalk.i64_in _ (by omega)
  have HSz := hide hsz
  clear hsz
  go_upto_region 4 with fail
  trace "R4"
  go_wp2_with fail
  trace "ALLOC"
  have hcl : (parAr l n CA cap).cls = l.map mkC := par_fit l n HLn.out CA cap
  have hcn : (parAr l n CA cap).cls.length = n := by rw [hcl, List.length_map, HLn.out]
  have hfl := fitK_le (parAr l n CA cap).cls sz
  rw [hcn] at hfl
  by_cases hfit : fitK (parAr l n CA cap).cls sz = n
  · refine (alloc_no B0 a _ sz w2 HA.out (by rw [hcn]; omega) (.inr (by rw [hfit, hcn]))).mono ?_
    rintro e w3 ⟨rfl, k3⟩
    have K3 := hide ((K2.out.trans k3).alloc (.cells #[.int .i64 0, .int .i64 0, .int .i64 0] 40))
    clear k3 hcl hcn hfl hfit HA
    go_upto_region 5 with fail
    generalize w3.alloc _ = w4 at *
    go_wp2_with fail
    refine (awake08 _).mono ?_
    rintro e w5 ⟨rfl, k5⟩
    have K5 := hide (K3.out.trans k5)
    clear k5
    go_wp2_with fail
    go_ret
    exact ⟨rfl, K5.out⟩
  obtain ⟨i, hi⟩ : ∃ i, i = fitK (parAr l n CA cap).cls sz := ⟨_, rfl⟩
  rw [← hi] at hfl hfit
  have hil : i < n := by omega
  obtain ⟨c, hc⟩ : ∃ c, l[i]? = some c := ⟨l[i]'(by have := HLn.out; omega), by simp⟩
  have hcb := HLb.out c (List.mem_of_getElem? hc)
  obtain ⟨C, hC⟩ := HA.out.hasC (by rw [hcn]; omega)
  have hCA : CA = some ⟨C, 0, none⟩ := hC
  have hat : At (parAr l n CA cap) i C (mkC c) (-1) := ⟨hCA, by rw [hcl, List.getElem?_map, hc]; rfl, by
    show (List.replicate n (-1 : Int) ++ List.replicate (8 - n) 0)[i]? = some (-1)
    rw [List.getElem?_append_left (by simpa using hil)]
    simp [List.getElem?_replicate, hil]⟩
  by_cases hc0 : c.2 = 0
  · refine (alloc_full B0 a _ i C (mkC c) sz w2 HA.out (by rw [hcn]; omega) hs1.1 hi.symm hat (by show c.2 ≤ 0; omega) (by show (0 : Nat) ≤ 65536; omega) (by show 0 ≤ c.2; omega)).mono ?_
    rintro e w3 ⟨rfl, k3⟩
    have K3 := hide ((K2.out.trans k3).alloc (.cells #[.int .i64 0, .int .i64 0, .int .i64 0] 40))
    clear k3 hcl hcn hfl hfit HA hat hi hc hC hCA
    go_upto_region 5 with fail
    generalize w3.alloc _ = w4 at *
    go_wp2_with fail
    refine (awake08 _).mono ?_
    rintro e w5 ⟨rfl, k5⟩
    have K5 := hide (K3.out.trans k5)
    clear k5
    go_wp2_with fail
    go_ret
    exact ⟨rfl, K5.out⟩
  have HT := hide (show ∀ SA sc, St { parAr l n CA cap with cls := (parAr l n CA cap).cls.set i { mkC c with SA := SA, sc := sc, slots := (mkC c).slots ++ [Slot.zero.taken], live := (mkC c).live + 1 } } i C sz 1 (-1) 1 0 true { mkC c with SA := SA, sc := sc, slots := (mkC c).slots ++ [Slot.zero.taken], live := (mkC c).live + 1 } Slot.zero.taken from fun SA sc => by
    refine ⟨by simp [hcn]; omega, hCA, (fitK_set _ i (mkC c) { mkC c with SA := SA, sc := sc, slots := (mkC c).slots ++ [Slot.zero.taken], live := (mkC c).live + 1 } sz hat.hc rfl).trans hi.symm, by simp [hcn, hil], hat.hf, rfl, rfl, rfl, rfl, (fun h => by cases h), rfl, ⟨hcb.2.1, hcb.2.2.1⟩, fun j d hj hd => ?_⟩
    dsimp only at hd
    rw [List.getElem?_set, if_neg (fun e => hj e.symm), hcl, List.getElem?_map] at hd
    rcases hld : l[j]? with _ | dd
    · rw [hld] at hd; cases hd
    · rw [hld] at hd
      injection hd with hd
      subst hd
      have := HLb.out dd (List.mem_of_getElem? hld)
      exact ⟨rfl, rfl, this.2.1, this.2.2.1⟩)
  refine (alloc_newk B0 a _ i C 0 (mkC c) sz w2 HA.out (by rw [hcn]; omega) hs1.1 hi.symm hat rfl (by show (0 : Int) < c.2; omega) (by show c.2 ≤ 65536; omega) (by show (0 : Int) ≤ 0 ∧ (0 : Int) < 4611686018427387904; decide) hB2).mono ?_
  rintro e w3 ⟨rfl, ⟨SA, sc, h3⟩, k3⟩
  have hi8 : i < 8 := by omega
  obtain ⟨s3, hs3⟩ : ∃ s3, s3 = ({ parAr l n CA cap with cls := (parAr l n CA cap).cls.set i { mkC c with SA := SA, sc := sc, slots := (mkC c).slots ++ [Slot.zero.taken], live := (mkC c).live + 1 } } : Ar) := ⟨_, rfl⟩
  rw [← hs3] at h3
  have ht3 := HT.out SA sc
  rw [← hs3] at ht3
  obtain ⟨c3, y3, T3⟩ : ∃ c3 y3, Hid (St s3 i C sz 1 (-1) 1 0 true c3 y3) := ⟨_, _, ht3⟩
  have H3 := hide (h3.quiet ((Keeps.refl _ _).alloc (.cells #[.int .i64 i, .int .i64 0, .int .i64 1] 40)))
  have X3 := hide (Blk.new w3 40 #[.int .i64 i, .int .i64 0, .int .i64 1])
  have K3 := hide ((ArS.to0 K2.out k3 hwB).alloc (.cells #[.int .i64 i, .int .i64 0, .int .i64 1] 40))
  clear h3 k3 hs3 ht3 HT hat hi hc hC hCA hcl hcn hfl hfit HA hil hc0 hcb HLn HLb
  go_upto_region 5 with fail
  trace "R5"
  generalize w3.alloc _ = w4 at *
  generalize w3.heap.size = X at *
  obtain ⟨⟨q0, q1, q2⟩, _, hX⟩ := X3.out.three
  go_wp2_with fail
  trace "FREE"
  refine (st_free B0 a s3 i C sz 1 0 c3 y3 w4 H3.out T3.out).mono ?_
  rintro e w5 ⟨rfl, ⟨s5, c5, y5, h5, t5⟩, k5⟩
  have X5 := hide (X3.out.kept k5 (ArS.not X3.out (by decide) (by decide) (by decide)))
  have H5 := hide h5
  have T5 := hide t5
  have K5 := hide (ArS.to0 K3.out k5 hwB)
  clear h5 t5 k5 H3 T3 X3 K3 q0 q1 q2 hX
  have hn20 := Int.emod_nonneg x (show (20 : Int) ≠ 0 by omega)
  have hn21 := Int.emod_lt_of_pos x (show (0 : Int) < 20 by omega)
  have tx : Int.tmod x 20 = x % 20 := Int.tmod_eq_emod_of_nonneg x0
  have wx : IntKind.i64.wrap x = x := IntWalk.i64_in _ (by omega)
  obtain ⟨nn, hnn⟩ : ∃ nn : Nat, x % 20 = (nn : Int) ∧ nn < 20 := ⟨(x % 20).toNat, by omega, by omega⟩
  have wx2 : IntKind.i64.wrap (x % 20) = (nn : Int) := by rw [hnn.1]; exact IntWalk.i64_in _ (by omega)
  have wx3 : IntKind.i64.wrap (nn : Int) = (nn : Int) := IntWalk.i64_in _ (by omega)
  have hnn1 := hnn.1
  have hnn2 := hnn.2
  clear hnn
  rw [hnn1] at tx
  go_upto_region 9 with fail
  trace "R9"
  go_wp2_with fail
  trace "LOOP"
  go_loopw [12, 13, 14] (fun jv _ _ wr => ∃ (j : Nat) (s : Ar) (c : Cls) (y : Slot), j ≤ nn ∧ jv = .int .i64 j ∧ Hid (IsAr wr B0 a s) ∧ Hid (St s i C sz (1 + j) 0 0 j false c y) ∧ Hid (Blk wr X 40 #[.int .i64 i, .int .i64 0, .int .i64 1]) ∧ Hid (Keeps (fun _ => False) w wr)) (fun jv _ _ _ => nn - (intOf jv).toNat)
  case atStart => exact ⟨0, s5, c5, y5, by omega, rfl, H5, hide (by simpa using T5.out), X5, K5⟩
  case round =>
    obtain ⟨j, s, c, y', hj, rfl, HA, HS, HX, HK⟩ := hrel
    clear H5 T5 X5 K5
    by_cases hlt : j < nn
    · have HLT : Hid (j + 1 ≤ nn) := hlt
      have hjI : (j : Int) < (nn : Int) := by omega
      go_wp2_with fail
      trace "RA"
      refine (st_alloc B0 a s i C sz (1 + j) j c y' wr HA.out HS.out hs1.1 (by omega)).mono ?_
      rintro e w6 ⟨rfl, ⟨s6, c6, y6, h6, t6⟩, k6⟩
      have ka := (Keeps.refl (fun _ => False) w6).alloc (.cells #[.int .i64 i, .int .i64 0, .int .i64 (1 + j + 1)] 40)
      have X6 := hide ((HX.out.kept k6 (ArS.not HX.out (by decide) (by decide) (by decide))).kept ka (fun h => h))
      have Y6 := hide (Blk.new w6 40 #[.int .i64 i, .int .i64 0, .int .i64 (1 + j + 1)])
      have H6 := hide (h6.quiet ka)
      have T6 := hide t6
      have K6 := hide ((ArS.to0 HK.out k6 hwB).trans ka)
      clear h6 t6 k6 ka HA HS HX HK
      go_upto_region 13 with fail
      trace "R13"
      generalize w6.alloc _ = w7 at *
      generalize w6.heap.size = Y at *
      obtain ⟨⟨q0, q1, q2⟩, _, hX⟩ := X6.out.three
      obtain ⟨⟨r0, r1, r2⟩, _, hY⟩ := Y6.out.three
      have e1 : ((1 + (j : Int) + 1) == 1) = false := by simp; omega
      go_wp2_with fail
      trace "STALE"
      refine (st_stale B0 a s6 i C sz (1 + j + 1) (-1) 1 j 1 true c6 y6 w7 H6.out T6.out (.inr (by omega)) (by omega) (by omega)).mono ?_
      rintro e w8 ⟨rfl, ⟨s8, h8, t8⟩, k8⟩
      have X8 := hide (X6.out.kept k8 (ArS.not X6.out (by decide) (by decide) (by decide)))
      have Y8 := hide (Y6.out.kept k8 (ArS.not Y6.out (by decide) (by decide) (by decide)))
      have H8 := hide h8
      have T8 := hide t8
      have K8 := hide (ArS.to0 K6.out k8 hwB)
      clear h8 t8 k8 H6 T6 X6 Y6 K6 q0 q1 q2 r0 r1 r2 e1
      obtain ⟨⟨r0, r1, r2⟩, _, hY⟩ := Y8.out.three
      go_wp2_with fail
      trace "FREE2"
      refine (st_free B0 a s8 i C sz (1 + j + 1) (j + 1) c6 y6 w8 H8.out T8.out).mono ?_
      rintro e w9 ⟨rfl, ⟨s9, c9, y9, h9, t9⟩, k9⟩
      have X9 := hide (X8.out.kept k9 (ArS.not X8.out (by decide) (by decide) (by decide)))
      have H9 := hide h9
      have T9 := hide t9
      have K9 := hide (ArS.to0 K8.out k9 hwB)
      clear h9 t9 k9 H8 T8 X8 Y8 K8 r0 r1 r2
      go_wp2_with fail
      trace "RND"
      go_roundw
      case rel => exact ⟨j + 1, s9, c9, y9, HLT.out, by go_num, H9, hide (by have := T9.out; push_cast; rw [show (1 : Int) + ((j : Int) + 1) = 1 + j + 1 from by omega]; exact this), X9, K9⟩
      case measure => have := HLT.out; simp [intOf]; omega
    · obtain rfl : j = nn := by omega
      obtain ⟨⟨q0, q1, q2⟩, _, hX⟩ := HX.out.three
      go_upto_region 17 with fail
      trace "R17"
      go_wp2_with fail
      trace "READ"
      refine (read_stale B0 a s i 0 1 wr HA.out HS.out.hn (HS.out.stale 1 (.inl rfl) (by omega) (by omega))).mono ?_
      rintro e w6 ⟨rfl, h6, k6⟩
      have X6 := hide (HX.out.kept k6 (ArS.not HX.out (by decide) (by decide) (by decide)))
      have T6 := hide (HS.out.fault (s.faults + 1))
      rw [HS.out.hfa] at h6 T6
      have H6 := hide h6
      have K6 := hide (ArS.to0 HK.out k6 hwB)
      clear h6 k6 HA HS HX HK q0 q1 q2 hX
      obtain ⟨⟨q0, q1, q2⟩, _, hX⟩ := X6.out.three
      go_wp2_with fail
      trace "WRITE"
      refine (write_stale B0 a _ i 0 1 none 0 0 w6 H6.out T6.out.hn (T6.out.stale 1 (.inl rfl) (by omega) (by omega))).mono ?_
      rintro e w7 ⟨rfl, h7, k7⟩
      have T7 := hide (T6.out.fault ((j : Int) + 2))
      have hf7 : (({ s with faults := (j : Int) + 1 } : Ar).faults + 1) = (j : Int) + 2 := by show (j : Int) + 1 + 1 = j + 2; omega
      rw [hf7] at h7
      have HU := hide (usage_f B0 a _ w7 ((j : Int) + 2) h7 (T7.out.small (by omega) (by omega)) rfl)
      have K7 := hide (ArS.to0 K6.out k7 hwB)
      clear h7 k7 H6 T6 X6 K6 q0 q1 q2 hX hf7
      have w22 : IntKind.i64.wrap ((j : Int) + 2) = (j : Int) + 2 := IntWalk.i64_in _ (by omega)
      have hfu := fun x y z w => field_u x y z w
      go_wp2_with fail
      trace "USAGE"
      refine HU.out.mono ?_
      rintro e w8 ⟨D8, m8, rfl, _, k8⟩
      have K8 := hide (K7.out.trans k8)
      clear k8 HU T7 K7
      go_wp2_with fail
      trace "AWAKE"
      refine (awake08 _).mono ?_
      rintro e w9 ⟨rfl, k9⟩
      have K9 := hide (K8.out.trans k9)
      clear k9
      go_wp2_with fail
      go_ret
      exact ⟨rfl, K9.out⟩
theorem walk (w : World) (A1 : Option Addr) (n1 c1 : Nat) (z1 : List Int) (r1 : Rd w w.heap.size A1 1 n1 (z1.map (.int .i64))) (b1 : ∀ z ∈ z1, -9223372036854775808 ≤ z ∧ z < 9223372036854775808) (s1 : n1 * 8 ≤ 140737488351232) (l1 : n1 ≤ c1)
    (x : Int) (x0 : 0 ≤ x) (x1 : x < 256) (y : Int) (y0 : 0 ≤ y) (y1 : y < 256) :
    Calls Try.prog 7 #[.slice A1 n1 c1, .int .u8 x, .int .u8 y] w fun e w' => e = .returned (.bool true) ∧ Below w.heap.size w w' :=
  (main w A1 n1 c1 z1 r1 b1 (by omega) x x0 x1 y y0 y1).mono fun e w' ⟨he, hk⟩ => ⟨he, hk.done⟩
end arenaStale
end Go.Proofs.Ytidobhflijdccaa
