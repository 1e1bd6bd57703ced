/-
  The reference's order of entries: each is put in at its place. No conditions beyond those of the statement.
-/
import Derived.Test.YtmbgnekilgobaaaEm
import Derived.Deep.RegionLaw
set_option linter.unusedVariables false
set_option linter.unusedSimpArgs false
namespace Go.Proofs.Ytmbgnekilgobaaa
open Go.RowKit
def insE (S : List Ln) (x : Ln) : List Ln := S.take (posK S x.key) ++ x :: S.drop (posK S x.key)
def srtE (l : List Ln) : List Ln := l.foldl insE []
theorem insE_len (S : List Ln) (x : Ln) : (insE S x).length = S.length + 1 := by
  unfold insE
  have := posK_le S x.key
  simp
  omega
theorem srtE_snoc (l : List Ln) (x : Ln) : srtE (l ++ [x]) = insE (srtE l) x := by unfold srtE; rw [List.foldl_append]; rfl
theorem srtE_len (l : List Ln) : (srtE l).length = l.length := by
  induction l using Srt.rev_ind with
  | h0 => rfl
  | h1 l x ih => rw [srtE_snoc, insE_len, ih]; simp
theorem posK_all {S : List Ln} {k : ByteArray} (h : ∀ x ∈ S, kLt x k = true) : posK S k = S.length := posK_eq (Nat.le_refl _) (fun i x _ hx => h x (List.mem_of_getElem? hx)) (fun x hx => by rw [List.getElem?_eq_none (Nat.le_refl _)] at hx; cases hx)
theorem srtE_asc : ∀ {l : List Ln}, Asc l → srtE l = l := by
  intro l
  induction l using Srt.rev_ind with
  | h0 => intro _; rfl
  | h1 l x ih =>
    intro h
    have h2 := List.pairwise_append.1 h
    rw [srtE_snoc, ih h2.1, insE, posK_all (fun y hy => h2.2.2 y hy x (List.mem_singleton.2 rfl)), List.take_length, List.drop_length]
set_option maxRecDepth 100000 in
set_option maxHeartbeats 2000000 in
theorem rsorted_any (w : World) (B : Nat) (A : Option Addr) (n c : Nat) (l : List Ln) (hr : Rd w B A 3 n (lnCs l)) (hn : n ≤ 1000000) :
    Calls Try.prog 71 #[.slice A n c] w fun e w' => ∃ A' c', e = .returned (.slice A' n c') ∧ Ens w' w.heap.size A' n c' (srtE l) ∧ Keeps (fun _ => False) w w' := by
  have hl := lnRd_len hr
  have HR := hide hr
  have HLl := hide hl
  clear hr hl
  go_enter Try.func71, Try.ntmps71
  go_upto_region 3 with fail
  go_loopw [3, 9] (fun ov iv wr => ∃ (i : Nat) (A' : Option Addr) (c' : Nat), i ≤ n ∧ ov = .slice A' i c' ∧ iv = .int .i64 (i : Int) ∧ Hid (Ens wr w.heap.size A' i c' (srtE (l.take i))) ∧ Hid (Keeps (fun _ => False) w wr)) (fun _ iv _ => n - (intOf iv).toNat)
  case atStart => exact ⟨0, none, 0, by omega, rfl, rfl, hide (Own.nil _ _ _ _), hide (Keeps.refl _ _)⟩
  case round =>
    obtain ⟨i, A', c', hin, rfl, rfl, HO, HK⟩ := hrel
    obtain ⟨wo, rfl⟩ : ∃ wo : World, wo = wr := ⟨_, rfl⟩
    by_cases hlt : i < n
    · have e1 : decide (i < n) = true := by simpa using hlt
      have hil : i < l.length := by rw [HLl.out]; exact hlt
      obtain ⟨x, hx⟩ : ∃ x, l[i]? = some x := ⟨l[i], List.getElem?_eq_getElem hil⟩
      obtain ⟨b, off, rfl, hb, hc⟩ := (HR.out.kept HK.out (fun _ _ h => h)).2 (by omega)
      obtain ⟨g0, g1, g2⟩ := lnCs_at hx
      have r0 := hc _ _ g0
      have r1 := hc _ _ g1
      have r2 := hc _ _ g2
      rw [← Nat.add_assoc] at r1 r2
      have hw := HK.out.size
      obtain ⟨w3, hw3⟩ : ∃ w3, w3 = wo.alloc (.cells #[.string x.key, .int .u64 x.lo, .int .u64 x.hi] 53) := ⟨_, rfl⟩
      have HX : Hid (Blk w3 wo.heap.size 53 (lnC x).toArray) := hide (by rw [hw3]; exact Blk.new _ _ _)
      have K3 : Hid (Keeps (fun _ => False) wo w3) := hide (by rw [hw3]; exact (Keeps.refl _ _).alloc _)
      have HW3 := hide hw3
      obtain ⟨S, hS⟩ : ∃ S, S = srtE (l.take i) := ⟨_, rfl⟩
      have hSl : S.length = i := by rw [hS, srtE_len, List.length_take]; omega
      have hta : l.take (i + 1) = l.take i ++ [x] := by rw [List.take_add_one, hx]; rfl
      have HSn : Hid (srtE (l.take (i + 1)) = insE S x) := hide (by rw [hta, srtE_snoc, hS])
      have HO3 : Hid (Ens w3 w.heap.size A' i c' S) := hide (by rw [hS]; exact HO.out.kept K3.out (fun _ _ h => h))
      have HSl := hide hSl
      have hge : w.heap.size ≤ wo.heap.size := hw
      clear hw3 hS hSl hta hx hil hw g0 g1 g2 hc hb HO
      go_upto_region 6 with fail
      rw [← HW3.out]
      obtain ⟨gx, hgx⟩ : ∃ gx, gx = wo.heap.size := ⟨_, rfl⟩
      rw [← hgx] at hge ⊢
      have HGX := hide hgx
      rw [← hgx] at HX
      clear r0 r1 r2 hgx
      go_loopw [6] (fun kv wr => ∃ (k : Nat), k ≤ i ∧ kv = .int .i64 (k : Int) ∧ Hid (∀ j y, j < k → S[j]? = some y → kLt y x.key = true) ∧ Hid (Keeps (fun _ => False) w3 wr)) (fun kv _ => i - (intOf kv).toNat)
      case atStart => exact ⟨0, by omega, rfl, hide (fun j y h => by omega), hide (Keeps.refl _ _)⟩
      case round =>
        obtain ⟨k, hki, rfl, HF, K6⟩ := hrel
        have HX6 := hide (HX.out.kept K6.out (fun h => h))
        have HO6 := hide (HO3.out.kept K6.out (fun _ _ h => h))
        obtain ⟨wi, rfl⟩ : ∃ wi : World, wi = wr := ⟨_, rfl⟩
        rcases Nat.lt_or_ge k i with hk0 | hk0
        · obtain ⟨g, rfl, _⟩ := HO6.out.some_ (by omega)
          obtain ⟨y, hy⟩ : ∃ y, S[k]? = some y := ⟨S[k]'(by rw [HSl.out]; exact hk0), List.getElem?_eq_getElem _⟩
          obtain ⟨d0, d1, d2⟩ := en_at HO6.out hy
          obtain ⟨c0, c1, c2⟩ := ln_cells HX6.out
          have e2 : decide (k < i) = true := by simpa using hk0
          have hpI : (k : Int) < (i : Int) := by omega
          have hp0 : (0 : Int) ≤ (k : Int) := by omega
          have hgx6' : gx < wi.heap.size := HX6.out.lt
          have HY := hide hy
          rcases hb : Op.bytesLess y.key.toList x.key.toList with _ | _
          · have HPk : Hid (posK S x.key = k) := hide (posK_eq (by rw [HSl.out]; omega) HF.out (fun z hz => by rw [HY.out] at hz; injection hz with hz; rw [← hz]; exact hb))
            clear hy
            go_upto_region 6 with fail
            go_quiet (fail)
            obtain ⟨w6, hw6⟩ : ∃ w6 : World, w6 = wi.drewN nq := ⟨_, rfl⟩
            rw [← hw6]
            have HX6 : Hid (Blk w6 gx 53 (lnC x).toArray) := by rw [hw6]; exact HX6
            have HO6 : Hid (Ens w6 w.heap.size (some ⟨g, 0, none⟩) i c' S) := by rw [hw6]; exact HO6
            have K6 : Hid (Keeps (fun _ => False) w3 w6) := by rw [hw6]; exact hide (K6.out.drewN _)
            clear hw6 c0 c1 c2 d0 d1 d2 hb hgx6' hk0
            go_upto_region 8 with fail
            have hnc := HO6.out.le
            obtain ⟨Da, hsa, hra, hia⟩ := sub_hi elemEn (some ⟨g, 0, none⟩) i c' .i64 (k : Int) (by omega) (by omega) hnc
            obtain ⟨Db, hsb, hrb, hib⟩ := sub_lo elemEn (some ⟨g, 0, none⟩) i c' .i64 (k : Int) (by omega) (by omega) hnc
            rw [show ((k : Nat) : Int).toNat = k from by omega] at hsb hrb hsa hra
            have RA := hide (hra _ _ _ (HO6.out.rd (by omega)))
            have RB := hide (hrb _ _ _ (HO6.out.rd (by omega)))
            rw [lnCs_take] at RA
            rw [lnCs_drop] at RB
            clear hra hrb hia hib
            obtain ⟨c60, c61, c62⟩ := ln_cells HX6.out
            have hgx6 : gx < w6.heap.size := HX6.out.lt
            have hik : k + 1 + (i - k) = i + 1 := by omega
            go_region_law (first
              | (refine step_app _ elemEn (by rfl) (.tmp 29) (.tmp 32) (by rfl) w6.heap.size _ (by rfl) (Own.new0 _ _ 53 3 _ (by simp) (by simp)) _ (m := k) _ (by rfl) (RA.out.kept (((Keeps.refl (fun _ => False) w6).drew).alloc _) (fun _ _ h => h)) (lnCs_one _) (by simp only [maxLen]; omega) (by omega) (by simp) ?_; intro A7 c7 w7 o7 k7 hA7; rw [Nat.zero_add, List.nil_append] at o7; have O7 := hide o7; have K7 := hide ((((Keeps.refl (fun _ => False) w6).drew).alloc (.cells #[] 53)).step k7 (fun q hq h => by have := (inB_some _ _ _).1 h; (try simp at this); omega)); obtain ⟨c70, c71, c72⟩ := ln_cells (HX6.out.kept K7.out (fun h => h)); clear o7 k7 hA7)
              | (refine step_app _ elemEn (by rfl) (.tmp 29) (.tmp 32) (by rfl) w6.heap.size _ (by rfl) (Own.new0 _ _ 53 3 _ (by simp) (by simp)) _ (m := k) _ (by rfl) (RA.out.kept ((((Keeps.refl (fun _ => False) w6).drew).alloc (.cells #[.string x.key, .int .u64 x.lo, .int .u64 x.hi] 53)).alloc _) (fun _ _ h => h)) (lnCs_one _) (by simp only [maxLen]; omega) (by omega) (by simp; (try omega)) ?_; intro A7 c7 w7 o7 k7 hA7; rw [Nat.zero_add, List.nil_append] at o7; have O7 := hide o7; have HY7 := hide (((Blk.new_at w6.drew 53 #[.string x.key, .int .u64 x.lo, .int .u64 x.hi] w6.heap.size rfl).alloc (.cells #[] 53)).kept k7 (fun h => by have := (inB_some _ _ _).1 h; (try simp at this))); have K7 := hide (((((Keeps.refl (fun _ => False) w6).drew).alloc (.cells #[.string x.key, .int .u64 x.lo, .int .u64 x.hi] 53)).alloc (.cells #[] 53)).step k7 (fun q hq h => by have := (inB_some _ _ _).1 h; (try simp at this); omega)); clear o7 k7 hA7)
              | (refine step_app _ elemEn (by rfl) (.tmp 29) (.tmp 32) (by rfl) w6.heap.size _ (by rfl) ((Own.new0 w6.drew w6.heap.size 53 3 w6.heap.size rfl (Nat.le_refl _)).kept (((Keeps.refl (fun _ => False) _)).alloc (.cells #[.string x.key, .int .u64 x.lo, .int .u64 x.hi] 53)) (fun _ _ h => h)) _ (m := k) _ (by rfl) (RA.out.kept ((((Keeps.refl (fun _ => False) w6).drew).alloc (.cells #[] 53)).alloc _) (fun _ _ h => h)) (lnCs_one _) (by simp only [maxLen]; omega) (by omega) (by simp; (try omega)) ?_; intro A7 c7 w7 o7 k7 hA7; rw [Nat.zero_add, List.nil_append] at o7; have O7 := hide o7; have HY7 := hide ((Blk.new_at (w6.drew.alloc (.cells #[] 53)) 53 #[.string x.key, .int .u64 x.lo, .int .u64 x.hi] (w6.heap.size + 1) (by simp)).kept k7 (fun h => by have := (inB_some _ _ _).1 h; (try simp at this); (try omega))); have K7 := hide (((((Keeps.refl (fun _ => False) w6).drew).alloc (.cells #[] 53)).alloc (.cells #[.string x.key, .int .u64 x.lo, .int .u64 x.hi] 53)).step k7 (fun q hq h => by have := (inB_some _ _ _).1 h; (try simp at this); omega)); clear o7 k7 hA7)
              | (refine step_app _ elemEn (by rfl) (.tmp 33) (.tmp 35) (by rfl) w6.heap.size _ (by rfl) O7.out _ (m := 1) (lnC x) (by rfl) (Blk.rd (xs := lnC x) HY7.out rfl) (lnC_one x) (by simp only [maxLen]; omega) (by omega) (K7.out.size) ?_; intro A8 c8 w8 o8 k8 hA8; have O8 := hide o8; have K8 := hide (K7.out.step k8 (fun q hq h => by have := O7.out.inB h; omega)); clear o8 k8 hA8)
              | (refine step_app _ elemEn (by rfl) (.tmp 33) (.tmp 35) (by rfl) w6.heap.size _ (by rfl) (O7.out.kept ((Keeps.refl (fun _ => False) w7).alloc _) (fun _ _ h => h)) _ (m := 1) (lnC x) (by rfl) (Blk.rd (xs := lnC x) (Blk.new_at _ _ _ _ (by simp)) rfl) (lnC_one x) (by simp only [maxLen]; omega) (by omega) (by have := K7.out.size; simp; omega) ?_; intro A8 c8 w8 o8 k8 hA8; have O8 := hide o8; have K8 := hide ((K7.out.alloc (.cells #[.string x.key, .int .u64 x.lo, .int .u64 x.hi] 53)).step k8 (fun q hq h => by have := O7.out.inB h; omega)); clear o8 k8 hA8)
              | (refine step_app _ elemEn (by rfl) (.tmp 36) (.tmp 39) (by rfl) w6.heap.size _ (by rfl) O8.out _ (m := i - k) _ (by rfl) (RB.out.kept K8.out (fun _ _ h => h)) (lnCs_one _) (by simp only [maxLen]; omega) (by omega) (K8.out.size) ?_; intro A9 c9 w9 o9 k9 hA9; have O9 := hide o9; have K9 := hide (K8.out.step k9 (fun q hq h => by have := O8.out.inB h; omega)); clear o9 k9 hA9))
            all_goals
              have O10 : Hid (Ens w9 w.heap.size A9 (i + 1) c9 (srtE (l.take (i + 1)))) := hide (by
                have h1 := O9.out
                rw [hik, ← lnCs1 x, ← lnCs_app, ← lnCs_app] at h1
                rw [HSn.out, insE, HPk.out]
                simp only [List.append_assoc, List.cons_append, List.nil_append] at h1
                exact h1.base_le (by have := K6.out.size; have := K3.out.size; have := HGX.out; omega))
              have K10 := hide ((HK.out.trans K3.out).trans (K6.out.trans K9.out))
              go_wp2_with fail
              go_roundw
              case rel => exact ⟨i + 1, A9, c9, by omega, rfl, by go_num, O10, K10⟩
              case measure => simp [intOf]; omega
          · have HF2 : Hid (∀ j y, j < k + 1 → S[j]? = some y → kLt y x.key = true) := hide (fun j z hj hz => by
              rcases Nat.lt_succ_iff_lt_or_eq.1 hj with h | h
              · exact HF.out j z h hz
              · rw [h, HY.out] at hz
                injection hz with hz
                rw [← hz]; exact hb)
            have wk1 : IntKind.i64.wrap ((k : Int) + 1) = ((k + 1 : Nat) : Int) := by rw [IntWalk.i64_in _ (by omega)]; omega
            clear hy
            go_upto_region 6 with fail
            go_quiet (fail)
            go_wp2_with fail
            go_roundw
            case rel => exact ⟨k + 1, by omega, by go_num, HF2, hide (K6.out.drewN _)⟩
            case measure => simp [intOf]; omega
        · have HPk : Hid (posK S x.key = k) := hide (posK_eq (by rw [HSl.out]; omega) HF.out (fun z hz => by have := (List.getElem?_eq_some_iff.1 hz).1; have := HSl.out; omega))
          have e2 : decide (k < i) = false := by simp; omega
          clear hk0
          go_upto_region 6 with fail
          go_quiet (fail)
          obtain ⟨w6, hw6⟩ : ∃ w6 : World, w6 = wi.drewN nq := ⟨_, rfl⟩
          rw [← hw6]
          have HX6 : Hid (Blk w6 gx 53 (lnC x).toArray) := by rw [hw6]; exact HX6
          have HO6 : Hid (Ens w6 w.heap.size A' i c' S) := by rw [hw6]; exact HO6
          have K6 : Hid (Keeps (fun _ => False) w3 w6) := by rw [hw6]; exact hide (K6.out.drewN _)
          clear hw6
          go_upto_region 8 with fail
          have hnc := HO6.out.le
          obtain ⟨Da, hsa, hra, hia⟩ := sub_hi elemEn A' i c' .i64 (k : Int) (by omega) (by omega) hnc
          obtain ⟨Db, hsb, hrb, hib⟩ := sub_lo elemEn A' i c' .i64 (k : Int) (by omega) (by omega) hnc
          rw [show ((k : Nat) : Int).toNat = k from by omega] at hsb hrb hsa hra
          have RA := hide (hra _ _ _ (HO6.out.rd (by omega)))
          have RB := hide (hrb _ _ _ (HO6.out.rd (by omega)))
          rw [lnCs_take] at RA
          rw [lnCs_drop] at RB
          clear hra hrb hia hib
          obtain ⟨c60, c61, c62⟩ := ln_cells HX6.out
          have hgx6 : gx < w6.heap.size := HX6.out.lt
          have hik : k + 1 + (i - k) = i + 1 := by omega
          go_region_law (first
            | (refine step_app _ elemEn (by rfl) (.tmp 29) (.tmp 32) (by rfl) w6.heap.size _ (by rfl) (Own.new0 _ _ 53 3 _ (by simp) (by simp)) _ (m := k) _ (by rfl) (RA.out.kept (((Keeps.refl (fun _ => False) w6).drew).alloc _) (fun _ _ h => h)) (lnCs_one _) (by simp only [maxLen]; omega) (by omega) (by simp) ?_; intro A7 c7 w7 o7 k7 hA7; rw [Nat.zero_add, List.nil_append] at o7; have O7 := hide o7; have K7 := hide ((((Keeps.refl (fun _ => False) w6).drew).alloc (.cells #[] 53)).step k7 (fun q hq h => by have := (inB_some _ _ _).1 h; (try simp at this); omega)); obtain ⟨c70, c71, c72⟩ := ln_cells (HX6.out.kept K7.out (fun h => h)); clear o7 k7 hA7)
            | (refine step_app _ elemEn (by rfl) (.tmp 29) (.tmp 32) (by rfl) w6.heap.size _ (by rfl) (Own.new0 _ _ 53 3 _ (by simp) (by simp)) _ (m := k) _ (by rfl) (RA.out.kept ((((Keeps.refl (fun _ => False) w6).drew).alloc (.cells #[.string x.key, .int .u64 x.lo, .int .u64 x.hi] 53)).alloc _) (fun _ _ h => h)) (lnCs_one _) (by simp only [maxLen]; omega) (by omega) (by simp; (try omega)) ?_; intro A7 c7 w7 o7 k7 hA7; rw [Nat.zero_add, List.nil_append] at o7; have O7 := hide o7; have HY7 := hide (((Blk.new_at w6.drew 53 #[.string x.key, .int .u64 x.lo, .int .u64 x.hi] w6.heap.size rfl).alloc (.cells #[] 53)).kept k7 (fun h => by have := (inB_some _ _ _).1 h; (try simp at this))); have K7 := hide (((((Keeps.refl (fun _ => False) w6).drew).alloc (.cells #[.string x.key, .int .u64 x.lo, .int .u64 x.hi] 53)).alloc (.cells #[] 53)).step k7 (fun q hq h => by have := (inB_some _ _ _).1 h; (try simp at this); omega)); clear o7 k7 hA7)
            | (refine step_app _ elemEn (by rfl) (.tmp 29) (.tmp 32) (by rfl) w6.heap.size _ (by rfl) ((Own.new0 w6.drew w6.heap.size 53 3 w6.heap.size rfl (Nat.le_refl _)).kept (((Keeps.refl (fun _ => False) _)).alloc (.cells #[.string x.key, .int .u64 x.lo, .int .u64 x.hi] 53)) (fun _ _ h => h)) _ (m := k) _ (by rfl) (RA.out.kept ((((Keeps.refl (fun _ => False) w6).drew).alloc (.cells #[] 53)).alloc _) (fun _ _ h => h)) (lnCs_one _) (by simp only [maxLen]; omega) (by omega) (by simp; (try omega)) ?_; intro A7 c7 w7 o7 k7 hA7; rw [Nat.zero_add, List.nil_append] at o7; have O7 := hide o7; have HY7 := hide ((Blk.new_at (w6.drew.alloc (.cells #[] 53)) 53 #[.string x.key, .int .u64 x.lo, .int .u64 x.hi] (w6.heap.size + 1) (by simp)).kept k7 (fun h => by have := (inB_some _ _ _).1 h; (try simp at this); (try omega))); have K7 := hide (((((Keeps.refl (fun _ => False) w6).drew).alloc (.cells #[] 53)).alloc (.cells #[.string x.key, .int .u64 x.lo, .int .u64 x.hi] 53)).step k7 (fun q hq h => by have := (inB_some _ _ _).1 h; (try simp at this); omega)); clear o7 k7 hA7)
            | (refine step_app _ elemEn (by rfl) (.tmp 33) (.tmp 35) (by rfl) w6.heap.size _ (by rfl) O7.out _ (m := 1) (lnC x) (by rfl) (Blk.rd (xs := lnC x) HY7.out rfl) (lnC_one x) (by simp only [maxLen]; omega) (by omega) (K7.out.size) ?_; intro A8 c8 w8 o8 k8 hA8; have O8 := hide o8; have K8 := hide (K7.out.step k8 (fun q hq h => by have := O7.out.inB h; omega)); clear o8 k8 hA8)
            | (refine step_app _ elemEn (by rfl) (.tmp 33) (.tmp 35) (by rfl) w6.heap.size _ (by rfl) (O7.out.kept ((Keeps.refl (fun _ => False) w7).alloc _) (fun _ _ h => h)) _ (m := 1) (lnC x) (by rfl) (Blk.rd (xs := lnC x) (Blk.new_at _ _ _ _ (by simp)) rfl) (lnC_one x) (by simp only [maxLen]; omega) (by omega) (by have := K7.out.size; simp; omega) ?_; intro A8 c8 w8 o8 k8 hA8; have O8 := hide o8; have K8 := hide ((K7.out.alloc (.cells #[.string x.key, .int .u64 x.lo, .int .u64 x.hi] 53)).step k8 (fun q hq h => by have := O7.out.inB h; omega)); clear o8 k8 hA8)
            | (refine step_app _ elemEn (by rfl) (.tmp 36) (.tmp 39) (by rfl) w6.heap.size _ (by rfl) O8.out _ (m := i - k) _ (by rfl) (RB.out.kept K8.out (fun _ _ h => h)) (lnCs_one _) (by simp only [maxLen]; omega) (by omega) (K8.out.size) ?_; intro A9 c9 w9 o9 k9 hA9; have O9 := hide o9; have K9 := hide (K8.out.step k9 (fun q hq h => by have := O8.out.inB h; omega)); clear o9 k9 hA9))
          all_goals
            have O10 : Hid (Ens w9 w.heap.size A9 (i + 1) c9 (srtE (l.take (i + 1)))) := hide (by
              have h1 := O9.out
              rw [hik, ← lnCs1 x, ← lnCs_app, ← lnCs_app] at h1
              rw [HSn.out, insE, HPk.out]
              simp only [List.append_assoc, List.cons_append, List.nil_append] at h1
              exact h1.base_le (by have := K6.out.size; have := K3.out.size; have := HGX.out; omega))
            have K10 := hide ((HK.out.trans K3.out).trans (K6.out.trans K9.out))
            go_wp2_with fail
            go_roundw
            case rel => exact ⟨i + 1, A9, c9, by omega, rfl, by go_num, O10, K10⟩
            case measure => simp [intOf]; omega
    · have e1 : decide (i < n) = false := by simpa using hlt
      obtain rfl : i = n := by omega
      rw [List.take_of_length_le (by rw [HLl.out]; exact Nat.le_refl _)] at HO
      go_wp2_with fail
      go_ret
      exact ⟨A', c', rfl, HO.out, HK.out⟩
end Go.Proofs.Ytmbgnekilgobaaa
