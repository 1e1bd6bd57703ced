/-
  slices.SortStableFunc at lines: the stable sort. No conditions beyond those of the statement.
-/
import Derived.Test.YtmbgnekilgobaaaLq
set_option linter.unusedVariables false
set_option linter.unusedSimpArgs false
namespace Go.Proofs.Ytmbgnekilgobaaa
open Go.RowKit
theorem sym_all : ∀ k, SymIH k
  | 0 => fun w B A n c P Al Bl Q a m b hk => by omega
  | k + 1 => fun w B A n c P Al Bl Q a m b hk ha hm hb h1 h2 hsA hsB h hn => by
    rcases Nat.lt_or_ge (Al.length + Bl.length) k with hlt | hge
    · exact sym_all k w B A n c P Al Bl Q a m b hlt ha hm hb h1 h2 hsA hsB h hn
    have hk2 : Al.length + Bl.length = k := by omega
    by_cases hA1 : Al.length = 1
    · obtain ⟨x, rfl⟩ := List.length_eq_one_iff.1 hA1
      exact sym1 w B A n c P Bl Q x a m b ha (by simpa using hm) (by simpa using hb) hsB h hn
    by_cases hB1 : Bl.length = 1
    · obtain ⟨y, rfl⟩ := List.length_eq_one_iff.1 hB1
      exact sym2 w B A n c P Al Q y a m b ha hm (by simpa using hb) hA1 hsA h hn
    by_cases hmm : (a + b) / 2 < m
    · exact sym3a k (sym_all k) w B A n c P Al Bl Q a m b _ hk2 ha hm hb (by omega) (by omega) hsA hsB h hn rfl hmm
    · exact sym3b k (sym_all k) w B A n c P Al Bl Q a m b _ hk2 ha hm hb (by omega) (by omega) hsA hsB h hn rfl (by omega)
theorem sym_any (w : World) (B : Nat) (A : Option Addr) (n c : Nat) (P Al Bl Q : List Ln) (a m b : Nat) (ha : a = P.length) (hm : m = P.length + Al.length) (hb : b = P.length + Al.length + Bl.length) (h1 : 1 ≤ Al.length) (h2 : 1 ≤ Bl.length) (hsA : Srt.Sd lnLt Al) (hsB : Srt.Sd lnLt Bl) (h : Lns w B A n c (P ++ Al ++ Bl ++ Q)) (hn : n ≤ 1000000) :
    Calls Try.prog 84 #[.slice A n c, .int .i64 a, .int .i64 m, .int .i64 b, cmpV] w (SymPost w B A n c P (mrgL Al Bl) Q) :=
  sym_all (Al.length + Bl.length + 1) w B A n c P Al Bl Q a m b (by omega) ha hm hb h1 h2 hsA hsB h hn
/-- each piece of s lines is sorted -/
def chk (s : Nat) (l : List Ln) : List Ln := if h : l = [] ∨ s = 0 then l else srtL (l.take s) ++ chk s (l.drop s)
termination_by l.length
decreasing_by
  rw [List.length_drop]
  have h1 : 0 < l.length := List.length_pos_iff.2 (fun e => h (.inl e))
  have h2 : s ≠ 0 := fun e => h (.inr e)
  omega
section
variable {s : Nat} {l A B : List Ln}
theorem chk_nil : chk s [] = [] := by rw [chk]; simp
theorem chk_cons (hs : 0 < s) (hl : l ≠ []) : chk s l = srtL (l.take s) ++ chk s (l.drop s) := by
  rw [chk, dif_neg]
  rintro (h | h)
  · exact hl h
  · omega
theorem chk_small (hs : 0 < s) (hl : l.length ≤ s) : chk s l = srtL l := by
  by_cases h : l = []
  · subst h; rw [chk_nil]; rfl
  · rw [chk_cons hs h, List.take_of_length_le hl, List.drop_of_length_le hl, chk_nil, List.append_nil]
theorem chk_app (hs : 0 < s) : ∀ (t : Nat) (A : List Ln), A.length = t * s → chk s (A ++ B) = chk s A ++ chk s B
  | 0, A, h => by
    obtain rfl : A = [] := List.eq_nil_of_length_eq_zero (by simpa using h)
    rw [chk_nil]; rfl
  | t + 1, A, h => by
    rw [Nat.add_mul, Nat.one_mul] at h
    have hA : A ≠ [] := fun e => by subst e; simp at h; omega
    have hsA : s ≤ A.length := by omega
    rw [chk_cons hs (fun e => hA (List.append_eq_nil_iff.1 e).1), chk_cons hs hA, List.take_append_of_le_length hsA, List.drop_append_of_le_length hsA, chk_app hs t (A.drop s) (by rw [List.length_drop]; omega), List.append_assoc]
theorem chk_len (hs : 0 < s) : ∀ (k : Nat) (l : List Ln), l.length ≤ k → (chk s l).length = l.length
  | 0, l, h => by
    obtain rfl : l = [] := List.eq_nil_of_length_eq_zero (by omega)
    rw [chk_nil]
  | k + 1, l, h => by
    by_cases hl : l = []
    · subst hl; rw [chk_nil]
    · have h1 : 0 < l.length := List.length_pos_iff.2 hl
      rw [chk_cons hs hl, List.length_append, Srt.srt_len, chk_len hs k (l.drop s) (by rw [List.length_drop]; omega), List.length_take, List.length_drop]
      omega
theorem chk_pair (hs : 0 < s) (hl : s < l.length) : chk s l = srtL (l.take s) ++ srtL ((l.drop s).take s) ++ chk s (l.drop (2 * s)) := by
  have h1 : l ≠ [] := fun e => by subst e; simp at hl
  have h2 : l.drop s ≠ [] := fun e => by have := congrArg List.length e; simp at this; omega
  rw [chk_cons hs h1, chk_cons hs h2, List.drop_drop, List.append_assoc, show s + s = 2 * s by omega]
theorem srt_two (s : Nat) (l : List Ln) : mrgL (srtL (l.take s)) (srtL ((l.drop s).take s)) = srtL (l.take (2 * s)) := by
  show Srt.mrg lnLt (Srt.srt lnLt _) (Srt.srt lnLt _) = Srt.srt lnLt _
  rw [← Srt.srt_app lnLt_wk, show 2 * s = s + s by omega, List.take_add]
end
theorem insertion_len (l : List Ln) : (srtL l).length = l.length := Srt.srt_len l
set_option maxRecDepth 100000 in
set_option maxHeartbeats 2000000 in
theorem stable_ok (w : World) (B : Nat) (A : Option Addr) (n c : Nat) (l : List Ln) (h : Lns w B A n c l) (hn : n ≤ 1000000) :
    Calls Try.prog 74 #[.slice A n c, .int .i64 n, cmpV] w fun e w' => e = .returned (.tuple #[]) ∧ Lns w' B A n c (srtL l) ∧ Keeps (inB A) w w' := by
  have hl := h.len
  have H := hide h
  have HLl := hide hl
  clear h hl
  go_enter Try.func74, Try.ntmps74
  go_upto_region 2 with fail
  go_loopw [7, 8] (fun av bv wr => ∃ t a b : Nat, a ≤ n ∧ av = .int .i64 (a : Int) ∧ bv = .int .i64 (b : Int) ∧ Hid (a = t * 20) ∧ b = a + 20 ∧ Hid (Lns wr B A n c (chk 20 (l.take a) ++ l.drop a)) ∧ Hid (Keeps (inB A) w wr)) (fun av _ _ => n - (intOf av).toNat)
  case atStart => exact ⟨0, 0, 20, by omega, rfl, rfl, hide (by omega), rfl, hide (by rw [List.take_zero, chk_nil, List.drop_zero]; exact H.out), hide (Keeps.refl _ _)⟩
  case round =>
    obtain ⟨t, a, b, han, rfl, rfl, HT, hba, HL, HK⟩ := hrel
    have HBA := hide hba
    by_cases hbn : b ≤ n
    · have e1 : decide (b ≤ n) = true := by simpa using hbn
      have hbb : b ≤ 1000000 ∧ a + 20 ≤ b := by omega
      clear hba
      go_wp2_with fail
      have hh := HL.out
      have hdl : l.drop a = (l.drop a).take 20 ++ l.drop b := by rw [HBA.out, ← List.drop_drop, List.take_append_drop]
      rw [hdl, ← List.append_assoc] at hh
      have hml : ((l.drop a).take 20).length = 20 := by rw [List.length_take, List.length_drop]; have := HLl.out; have := HBA.out; omega
      have hpl : (chk 20 (l.take a)).length = a := by rw [chk_len (by omega) _ _ (Nat.le_refl _), List.length_take]; have := HLl.out; omega
      refine (insertion_ok _ B A n c (chk 20 (l.take a)) ((l.drop a).take 20) (l.drop b) a b hpl.symm (by rw [hpl, hml]; exact HBA.out) hh hn).mono ?_
      rintro e w5 ⟨rfl, h5, k5⟩
      have H5 : Hid (Lns w5 B A n c (chk 20 (l.take b) ++ l.drop b)) := hide (by
        have e6 : l.take b = l.take a ++ (l.drop a).take 20 := by rw [HBA.out, List.take_add]
        rw [e6, chk_app (by omega) t _ (by rw [List.length_take]; have := HLl.out; have := HT.out; omega), chk_small (s := 20) (l := (l.drop a).take 20) (by omega) (by rw [hml]; exact Nat.le_refl _)]
        exact h5)
      have K5 := hide (HK.out.trans k5)
      clear hh hdl hml hpl h5 k5
      go_wp2_with fail
      go_roundw
      case rel => exact ⟨t + 1, b, b + 20, hbn, rfl, by go_num, hide (by have := HT.out; have := HBA.out; omega), rfl, H5, K5⟩
      case measure => simp [intOf]; omega
    · have e1 : decide (b ≤ n) = false := by simpa using hbn
      clear hba
      go_wp2_with fail
      have hh := HL.out
      rw [← List.append_nil (chk 20 (l.take a) ++ l.drop a)] at hh
      have hpl : (chk 20 (l.take a)).length = a := by rw [chk_len (by omega) _ _ (Nat.le_refl _), List.length_take]; have := HLl.out; omega
      refine (insertion_ok _ B A n c (chk 20 (l.take a)) (l.drop a) [] a n hpl.symm (by rw [hpl, List.length_drop]; have := HLl.out; omega) hh hn).mono ?_
      rintro e w5 ⟨rfl, h5, k5⟩
      have H5 : Hid (Lns w5 B A n c (chk 20 l)) := hide (by
        have e6 : chk 20 l = chk 20 (l.take a) ++ srtL (l.drop a) := by
          have e7 := chk_app (s := 20) (B := l.drop a) (by omega) t (l.take a) (by rw [List.length_take]; have := HLl.out; have := HT.out; omega)
          rw [List.take_append_drop] at e7
          rw [e7, chk_small (l := l.drop a) (by omega) (by rw [List.length_drop]; have := HLl.out; have := HBA.out; omega)]
        rw [e6]
        simpa using h5)
      have K5 := hide (HK.out.trans k5)
      clear hh hpl h5 k5 HL HK H HT HBA
      go_upto_region 7 with fail
      go_loopw [6, 7, 8, 9] (fun sv _ _ _ wr => ∃ s : Nat, 20 ≤ s ∧ s ≤ 4000000 ∧ sv = .int .i64 (s : Int) ∧ Hid (Lns wr B A n c (chk s l)) ∧ Hid (Keeps (inB A) w wr)) (fun sv _ _ _ _ => n - (intOf sv).toNat)
      case atStart => exact ⟨20, by omega, by omega, rfl, H5, K5⟩
      case round =>
        obtain ⟨s, hs20, hsB, rfl, HL, HK⟩ := hrel
        clear H5 K5
        by_cases hsn : s < n
        · have e2 : decide (s < n) = true := by simpa using hsn
          have HSN := hide hsn
          obtain ⟨s2, hs2⟩ : ∃ s2, s2 = 2 * s := ⟨_, rfl⟩
          have ws : IntKind.i64.wrap (2 * (s : Int)) = (s2 : Int) := by rw [IntWalk.i64_in _ (by omega)]; omega
          have ws' : IntKind.i64.wrap ((s : Int) * 2) = (s2 : Int) := by rw [IntWalk.i64_in _ (by omega)]; omega
          have HS2 := hide hs2
          have hs2b : s + 1 ≤ s2 ∧ s2 ≤ 2000000 := by omega
          clear hs2
          obtain ⟨wo, rfl⟩ : ∃ wo : World, wo = wr := ⟨_, rfl⟩
          go_upto_region 9 with fail
          go_loopw [7, 8] (fun av bv wr => ∃ t a b : Nat, a ≤ n ∧ av = .int .i64 (a : Int) ∧ bv = .int .i64 (b : Int) ∧ Hid (a = t * s2) ∧ b = a + s2 ∧ Hid (Lns wr B A n c (chk s2 (l.take a) ++ chk s (l.drop a))) ∧ Hid (Keeps (inB A) w wr)) (fun av _ _ => n - (intOf av).toNat)
          case atStart => exact ⟨0, 0, s2, by omega, rfl, rfl, hide (by omega), by omega, hide (by rw [List.take_zero, chk_nil, List.drop_zero]; exact HL.out), HK⟩
          case round =>
            obtain ⟨t, a, b, han, rfl, rfl, HT, hba, HLa, HKa⟩ := hrel
            have HBA := hide hba
            obtain ⟨m, hm⟩ : ∃ m, m = a + s := ⟨_, rfl⟩
            have wm : IntKind.i64.wrap ((a : Int) + (s : Int)) = (m : Int) := by rw [IntWalk.i64_in _ (by omega)]; omega
            have HM := hide hm
            clear HL HK
            by_cases hbn : b ≤ n
            · have e3 : decide (b ≤ n) = true := by simpa using hbn
              have wb : IntKind.i64.wrap ((b : Int) + (s2 : Int)) = ((b + s2 : Nat) : Int) := by rw [IntWalk.i64_in _ (by omega)]; omega
              have hab : a + 1 ≤ b := by omega
              clear hba hm
              go_wp2_with fail
              have hh := HLa.out
              have hrl : (l.drop a).length = n - a := by rw [List.length_drop, HLl.out]
              rw [chk_pair (s := s) (l := l.drop a) (by omega) (by rw [hrl]; have := HBA.out; have := HS2.out; omega), ← List.append_assoc, ← List.append_assoc] at hh
              have hpl : (chk s2 (l.take a)).length = a := by rw [chk_len (by omega) _ _ (Nat.le_refl _), List.length_take]; have := HLl.out; omega
              have h1l : (srtL ((l.drop a).take s)).length = s := by rw [insertion_len, List.length_take, hrl]; have := HBA.out; have := HS2.out; omega
              have h2l : (srtL (((l.drop a).drop s).take s)).length = s := by rw [insertion_len, List.length_take, List.length_drop, hrl]; have := HBA.out; have := HS2.out; omega
              refine (sym_any _ B A n c (chk s2 (l.take a)) (srtL ((l.drop a).take s)) (srtL (((l.drop a).drop s).take s)) (chk s ((l.drop a).drop (2 * s))) a m b hpl.symm (by rw [hpl, h1l]; exact HM.out) (by rw [hpl, h1l, h2l]; have := HBA.out; have := HS2.out; omega) (by omega) (by omega) (Srt.srt_sd lnLt_wk _) (Srt.srt_sd lnLt_wk _) hh hn).mono ?_
              rintro e w5 ⟨rfl, h5, k5⟩
              have H5 : Hid (Lns w5 B A n c (chk s2 (l.take b) ++ chk s (l.drop b))) := hide (by
                rw [srt_two] at h5
                have e6 : l.take b = l.take a ++ (l.drop a).take (2 * s) := by rw [HBA.out, HS2.out, List.take_add]
                have e7 : l.drop b = (l.drop a).drop (2 * s) := by rw [HBA.out, HS2.out, List.drop_drop]
                rw [e6, e7, chk_app (by omega) t _ (by rw [List.length_take]; have := HLl.out; have := HT.out; omega), chk_small (l := (l.drop a).take (2 * s)) (by omega) (by rw [List.length_take]; have := HS2.out; omega)]
                exact h5)
              have K5 := hide (HKa.out.trans k5)
              clear hh hrl hpl h1l h2l h5 k5
              go_wp2_with fail
              go_roundw
              case rel => exact ⟨t + 1, b, b + s2, hbn, rfl, rfl, hide (by have := HT.out; have := HBA.out; rw [Nat.add_mul]; omega), rfl, H5, K5⟩
              case measure => simp [intOf]; omega
            · have e3 : decide (b ≤ n) = false := by simpa using hbn
              have hrl : Hid ((l.drop a).length = n - a) := hide (by rw [List.length_drop, HLl.out])
              have hpl : Hid ((chk s2 (l.take a)).length = a) := hide (by rw [chk_len (by omega) _ _ (Nat.le_refl _), List.length_take]; have := HLl.out; omega)
              have HFin : Hid (chk s2 l = chk s2 (l.take a) ++ srtL (l.drop a)) := hide (by
                have e7 := chk_app (s := s2) (B := l.drop a) (by omega) t (l.take a) (by rw [List.length_take]; have := HLl.out; have := HT.out; omega)
                rw [List.take_append_drop] at e7
                rw [e7, chk_small (l := l.drop a) (by omega) (by rw [hrl.out]; have := HBA.out; omega)])
              clear hba hm
              by_cases hmn : m < n
              · have e4 : decide (m < n) = true := by simpa using hmn
                go_wp2_with fail
                have hh := HLa.out
                have hd2 : (l.drop a).drop (2 * s) = [] := List.drop_of_length_le (by rw [hrl.out]; have := HBA.out; have := HS2.out; omega)
                rw [chk_pair (s := s) (l := l.drop a) (by omega) (by rw [hrl.out]; have := HM.out; omega), ← List.append_assoc, ← List.append_assoc, hd2, chk_nil] at hh
                have h1l : (srtL ((l.drop a).take s)).length = s := by rw [insertion_len, List.length_take, hrl.out]; have := HM.out; omega
                have h2l : (srtL (((l.drop a).drop s).take s)).length = n - a - s := by rw [insertion_len, List.length_take, List.length_drop, hrl.out]; have := HBA.out; have := HS2.out; omega
                refine (sym_any _ B A n c (chk s2 (l.take a)) (srtL ((l.drop a).take s)) (srtL (((l.drop a).drop s).take s)) [] a m n hpl.out.symm (by rw [hpl.out, h1l]; exact HM.out) (by rw [hpl.out, h1l, h2l]; have := HM.out; omega) (by omega) (by have := HM.out; omega) (Srt.srt_sd lnLt_wk _) (Srt.srt_sd lnLt_wk _) hh hn).mono ?_
                rintro e w5 ⟨rfl, h5, k5⟩
                have H5 : Hid (Lns w5 B A n c (chk s2 l)) := hide (by
                  have e9 : (l.drop a).take (2 * s) = l.drop a := List.take_of_length_le (by rw [hrl.out]; have := HBA.out; have := HS2.out; omega)
                  rw [srt_two, e9] at h5
                  rw [HFin.out]
                  simpa using h5)
                have K5 := hide (HKa.out.trans k5)
                clear hh hd2 h1l h2l h5 k5
                go_wp2_with fail
                go_roundw
                case rel => exact ⟨s2, by omega, by omega, rfl, H5, K5⟩
                case measure => have := HSN.out; simp [intOf]; omega
              · have e4 : decide (m < n) = false := by simpa using hmn
                have H5 : Hid (Lns wr B A n c (chk s2 l)) := hide (by
                  have := HLa.out
                  rw [chk_small (l := l.drop a) (by omega) (by rw [hrl.out]; have := HM.out; omega)] at this
                  rw [HFin.out]
                  exact this)
                go_wp2_with fail
                go_roundw
                case rel => exact ⟨s2, by omega, by omega, rfl, H5, HKa⟩
                case measure => have := HSN.out; simp [intOf]; omega
        · have e2 : decide (s < n) = false := by simpa using hsn
          have H5 : Hid (Lns wr B A n c (srtL l)) := hide (by
            have := HL.out
            rw [chk_small (l := l) (by omega) (by have := HLl.out; omega)] at this
            exact this)
          go_wp2_with fail
          go_end0
          exact ⟨rfl, H5.out, HK.out⟩
theorem sortStable_ok (w : World) (B : Nat) (A : Option Addr) (n c : Nat) (l : List Ln) (h : Lns w B A n c l) (hn : n ≤ 1000000) :
    Calls Try.prog 57 #[.slice A n c, cmpV] w fun e w' => e = .returned (.tuple #[]) ∧ Lns w' B A n c (srtL l) ∧ Keeps (inB A) w w' := by
  have H := hide h
  clear h
  go_enter Try.func57, Try.ntmps57
  go_wp2_with fail
  refine (stable_ok w B A n c l H.out hn).mono ?_
  rintro e w1 ⟨rfl, h1, k1⟩
  have H1 := hide h1
  have K1 := hide k1
  clear h1 k1
  go_wp2_with fail
  go_end0
  exact ⟨rfl, H1.out, K1.out⟩
end Go.Proofs.Ytmbgnekilgobaaa
