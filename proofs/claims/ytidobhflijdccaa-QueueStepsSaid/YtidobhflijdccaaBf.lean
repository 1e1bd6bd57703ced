/-
  ArenaCheck: what it calls. No conditions beyond those of the statement.
-/
import Derived.Test.YtidobhflijdccaaArgP
import Derived.Test.YtidobhflijdccaaBc
import Derived.Test.YtidobhflijdccaaMem3
set_option linter.unusedVariables false
set_option linter.unusedSimpArgs false
namespace Go.Proofs.Ytidobhflijdccaa
open Go.RowKit Cfp
def fitP (l : List (Int × Int)) (size : Int) : Nat := l.findIdx (fun x => decide (size ≤ x.1))
theorem fitP_lt {l : List (Int × Int)} {size : Int} {i : Nat} {c : Int × Int} (h : l[i]? = some c) (hs : size ≤ c.1) (hb : ∀ (j : Nat) (d : Int × Int), j < i → l[j]? = some d → d.1 < size) : fitP l size = i := by
  obtain ⟨hi, he⟩ := List.getElem?_eq_some_iff.1 h
  unfold fitP
  rw [List.findIdx_eq hi]
  refine ⟨by rw [he]; simpa using hs, fun j hj => ?_⟩
  have := hb j _ hj (List.getElem?_eq_getElem (by omega))
  simp; omega
theorem fitP_no {l : List (Int × Int)} {size : Int} (hb : ∀ (j : Nat) (d : Int × Int), l[j]? = some d → d.1 < size) : fitP l size = l.length := by
  unfold fitP
  rw [List.findIdx_eq_length]
  intro c hc
  obtain ⟨j, hj, he⟩ := List.getElem_of_mem hc
  have := hb j c (by rw [List.getElem?_eq_getElem hj, he])
  simp; omega
theorem fitP_K (l : List (Int × Int)) (size : Int) : fitK (l.map mkC) size = fitP l size := by
  unfold fitK fitP
  rw [List.findIdx_map]
  rfl
def fitI (l : List (Int × Int)) (size : Int) : Int := if 1 ≤ size ∧ fitP l size < l.length then (fitP l size : Int) else 0
def fitE (l : List (Int × Int)) (size : Int) : Int := if 1 ≤ size ∧ fitP l size < l.length then 0 else 1
theorem afit_any (B a : Nat) (l : List (Int × Int)) (n cap : Nat) (CA : Option Addr) (size : Int) (w : World) (h : IsAr w B a (parAr l n CA cap)) (hl : l.length = n) (hn : n ≤ 8) :
    Calls Try.prog 20 #[.pointer (some ⟨a, 0, none⟩), .int .i64 size] w fun e w' => e = .returned (.tuple #[.int .i64 (fitI l size), .int .i64 (fitE l size)]) ∧ Keeps (fun _ => False) w w' := by
  have hcl : (parAr l n CA cap).cls = l.map mkC := by unfold parAr; rw [← hl, List.take_length]
  have hcn : (parAr l n CA cap).cls.length = n := by rw [hcl, List.length_map, hl]
  by_cases hf : 1 ≤ size ∧ fitP l size < l.length
  · rw [fitI, fitE, if_pos hf, if_pos hf]
    exact fit_ok B a _ (fitP l size) size w h (by rw [hcn]; exact hn) hf.1 (by rw [hcl, fitP_K]) (by rw [hcn, ← hl]; exact hf.2)
  · rw [fitI, fitE, if_neg hf, if_neg hf]
    refine fit_no B a _ size w h (by rw [hcn]; exact hn) ?_
    by_cases h1 : 1 ≤ size
    · refine .inr ?_
      have h2 : fitP l size ≤ l.length := List.findIdx_le_length
      rw [hcl, fitP_K, List.length_map]
      have : ¬ fitP l size < l.length := fun h => hf ⟨h1, h⟩
      omega
    · exact .inl (by omega)
set_option maxRecDepth 100000 in
theorem rfit_any (l : List (Int × Int)) (C : Option Addr) (n k B : Nat) (size : Int) (w : World) (hr : Rd w B C 2 n (prs l)) (hB : B ≤ w.heap.size) (hn : n ≤ 8) :
    Calls Try.prog 21 #[.slice C n k, .int .i64 size] w fun e w' => e = .returned (.tuple #[.int .i64 (fitI l size), .int .i64 (fitE l size)]) ∧ Keeps (fun _ => False) w w' := by
  have hlen : l.length = n := by have := hr.1; rw [prs_len] at this; omega
  obtain ⟨fi, hfi⟩ : ∃ fi, fi = fitI l size := ⟨_, rfl⟩
  obtain ⟨fe, hfe⟩ : ∃ fe, fe = fitE l size := ⟨_, rfl⟩
  rw [← hfi, ← hfe]
  by_cases h1 : 1 ≤ size
  · have HFi := hide hfi
    have HFe := hide hfe
    have HL := hide hlen
    have HR := hide hr
    have e0 : decide ((1 : Int) ≤ size) = true := by simpa using h1
    have H1 := hide h1
    clear hfi hfe hlen hr
    go_enter Try.func21, Try.ntmps21
    go_wp2_with fail
    go_loopw [6, 7, 12] (fun _ _ iv wr => ∃ i : Nat, i ≤ n ∧ iv = .int .i64 i ∧ Hid (∀ (j : Nat) (d : Int × Int), j < i → l[j]? = some d → d.1 < size) ∧ Hid (Keeps (fun _ => False) w wr)) (fun _ _ iv _ => n - (intOf iv).toNat)
    case atStart => exact ⟨0, by omega, rfl, hide (fun j d h => by omega), hide (Keeps.refl _ _)⟩
    case round =>
      obtain ⟨i, hi, rfl, HJ, KR⟩ := hrel
      by_cases hlt : i < n
      · have HLT : Hid (i + 1 ≤ n) := hlt
        obtain ⟨x, hx⟩ : ∃ x, l[i]? = some x := ⟨l[i]'(by have := HL.out; omega), by simp⟩
        obtain ⟨b, off, rfl, hbB, hcell⟩ := (HR.out.kept KR.out (fun _ _ h => h)).2 (by omega)
        obtain ⟨g1, g2⟩ := prs_at hx
        have f1 := hcell _ _ g1
        have f2 := hcell _ _ g2
        rw [← Nat.add_assoc] at f2
        have hltI : (i : Int) < (n : Int) := by omega
        have hi0 : (0 : Int) ≤ (i : Int) := by omega
        have HX := hide hx
        have KA := hide (KR.out.alloc (.cells #[.int .i64 x.1, .int .i64 x.2] 37))
        clear hcell g1 g2 hx
        by_cases hs : size ≤ x.1
        · have e1 : decide (size ≤ x.1) = true := by simpa using hs
          have hp : fitP l size = i := fitP_lt HX.out hs HJ.out
          have HVi : Hid (fi = i) := by show fi = i; rw [HFi.out, fitI, hp, if_pos ⟨H1.out, by rw [HL.out]; exact hlt⟩]
          have HVe : Hid (fe = 0) := by show fe = 0; rw [HFe.out, fitE, hp, if_pos ⟨H1.out, by rw [HL.out]; exact hlt⟩]
          clear hp
          go_wp2_with fail
          go_ret2
          exact ⟨by rw [HVi.out, HVe.out]; rfl, KA.out⟩
        · have e1 : decide (size ≤ x.1) = false := by simpa using hs
          have HS : Hid (x.1 < size) := by show _ < _; omega
          go_wp2_with fail
          go_roundw
          case rel =>
            refine ⟨i + 1, HLT.out, by go_num, hide (fun j d hj hd => ?_), KA⟩
            rcases Nat.lt_or_ge j i with h | h
            · exact HJ.out j d h hd
            · obtain rfl : j = i := by omega
              rw [HX.out] at hd; injection hd with hd; subst hd; exact HS.out
          case measure => have := HLT.out; simp [intOf]; omega
      · obtain rfl : i = n := by omega
        have hp : fitP l size = i := by rw [fitP_no (fun j d hd => HJ.out j d (by rw [← HL.out]; exact (List.getElem?_eq_some_iff.1 hd).1) hd), HL.out]
        have hno : ¬ (1 ≤ size ∧ fitP l size < l.length) := fun h => by rw [hp, HL.out] at h; omega
        have HVi : Hid (fi = 0) := by show fi = 0; rw [HFi.out, fitI, if_neg hno]
        have HVe : Hid (fe = 1) := by show fe = 1; rw [HFe.out, fitE, if_neg hno]
        clear hp hno
        go_wp2_with fail
        go_ret2
        exact ⟨by rw [HVi.out, HVe.out]; rfl, KR.out⟩
  · have hno : ¬ (1 ≤ size ∧ fitP l size < l.length) := fun h => h1 h.1
    have HVi : Hid (fi = 0) := by show fi = 0; rw [hfi, fitI, if_neg hno]
    have HVe : Hid (fe = 1) := by show fe = 1; rw [hfe, fitE, if_neg hno]
    have e0 : decide ((1 : Int) ≤ size) = false := by simpa using h1
    clear hfi hfe hlen hr hno
    go_enter Try.func21, Try.ntmps21
    go_wp2_with fail
    go_ret2
    exact ⟨by rw [HVi.out, HVe.out]; rfl, Keeps.refl _ _⟩

theorem fit_nil (size : Int) (w : World) : Calls Try.prog 20 #[.pointer none, .int .i64 size] w fun e w' => e = .returned (.tuple #[.int .i64 0, .int .i64 8]) ∧ Keeps (fun _ => False) w w' := by
  have K1 := hide ((Keeps.refl (fun _ => False) w).alloc (.cells #[.int .i64 size] 3))
  go_enter Try.func20, Try.ntmps20
  go_wp2_with fail
  go_ret2
  exact ⟨rfl, K1.out⟩

theorem alloc_nil (size : Int) (w : World) : Calls Try.prog 22 #[.pointer none, .int .i64 size] w fun e w' => e = .returned (.tuple #[.agg #[.int .i64 0, .int .i64 0, .int .i64 0], .int .i64 8]) ∧ Keeps (fun _ => False) w w' := by
  have k1 := (Keeps.refl (fun _ => False) w).alloc (.cells #[.int .i64 0, .int .i64 0, .int .i64 0] 40)
  have b1 := hide (Blk.new w 40 #[.int .i64 0, .int .i64 0, .int .i64 0])
  have HF := hide (fun W => fit_nil size W)
  have K1 := hide k1
  clear k1
  go_enter Try.func22, Try.ntmps22
  go_wp2_with fail
  refine (HF.out _).mono ?_
  rintro e w2 ⟨rfl, k2⟩
  have K2 := hide (K1.out.trans k2)
  have b2 := hide (b1.out.kept k2 (fun h => h))
  obtain ⟨⟨q0, q1, q2⟩, ⟨f0, f1, f2⟩, hz⟩ := b2.out.three
  clear k2
  go_wp2_with fail
  have b3 := hide (b2.out.set3 (.int .i64 0) (.int .i64 0) (.int .i64 0))
  have K3 := hide (K2.out.step (keeps3 w2 w.heap.size (.int .i64 0) (.int .i64 0) (.int .i64 0)) (fun b hb e => by omega))
  generalize ((w2.setCell _ _).setCell _ _).setCell _ _ = w3 at *
  have r0 := b3.out.cell 0
  have r1 := b3.out.cell 1
  have r2 := b3.out.cell 2
  refine bodyPost_ret (v := .tuple #[.agg #[(.int .i64 0), (.int .i64 0), (.int .i64 0)], .int .i64 8]) (by simp [results, Try.results22, go_sem, r0, r1, r2]) rfl ?_
  exact ⟨rfl, K3.out⟩
theorem find_nil (w : World) (x y z : Int) : Calls Try.prog 69 #[.pointer none, .agg #[.int .i64 x, .int .i64 y, .int .i64 z]] w fun e w' => e = .returned (.tuple #[.pointer none, .pointer none, .int .i64 8]) ∧ Keeps (fun _ => False) w w' := by
  have K1 := hide ((Keeps.refl (fun _ => False) w).alloc (.cells #[.int .i64 x, .int .i64 y, .int .i64 z] 40))
  go_enter Try.func69, Try.ntmps69
  go_wp2_with fail
  refine bodyPost_ret (v := .tuple #[.pointer none, .pointer none, .int .i64 8]) (by simp [results, Try.results69, go_sem]) rfl ?_
  exact ⟨rfl, K1.out⟩
theorem free_nil (w : World) (x y z : Int) : Calls Try.prog 25 #[.pointer none, .agg #[.int .i64 x, .int .i64 y, .int .i64 z]] w fun e w' => e = .returned (.int .i64 8) ∧ Keeps (fun _ => False) w w' := by
  have k1 := (Keeps.refl (fun _ => False) w).alloc (.cells #[.int .i64 x, .int .i64 y, .int .i64 z] 40)
  have b1 := Blk.new w 40 #[.int .i64 x, .int .i64 y, .int .i64 z]
  obtain ⟨⟨q0, q1, q2⟩, ⟨f0, f1, f2⟩, hz⟩ := b1.three
  have HF := hide (fun W => find_nil W x y z)
  have K1 := hide k1
  clear k1 b1
  go_enter Try.func25, Try.ntmps25
  go_wp2_with fail
  refine (HF.out _).mono ?_
  rintro e w2 ⟨rfl, k2⟩
  have K2 := hide (K1.out.trans k2)
  clear k2
  go_wp2_with fail
  go_ret
  exact ⟨rfl, K2.out⟩
theorem usage_nil (w : World) : Calls Try.prog 26 #[.pointer none] w fun e w' => e = .returned (.agg #[.slice none 0 0, .int .i64 0, .int .i64 0]) ∧ Keeps (fun _ => False) w w' := by
  have k1 := (Keeps.refl (fun _ => False) w).alloc (.cells #[.slice none 0 0, .int .i64 0, .int .i64 0] 46)
  have b1 := hide (Blk.new w 46 #[.slice none 0 0, .int .i64 0, .int .i64 0])
  have K1 := hide k1
  clear k1
  go_enter Try.func26, Try.ntmps26
  go_wp2_with fail
  refine bodyPost_ret (v := .agg #[.slice none 0 0, .int .i64 0, .int .i64 0]) (by simp [results, Try.results26, go_sem]) rfl ?_
  exact ⟨rfl, K1.out⟩
theorem anew_bad (l : List (Int × Int)) (hw : ∀ c ∈ l, (-9223372036854775808 ≤ c.1 ∧ c.1 < 9223372036854775808) ∧ (-9223372036854775808 ≤ c.2 ∧ c.2 < 9223372036854775808)) (hE : classesE l ≠ 0) (C : Option Addr) (n k B : Nat) (w : World) (hr : Rd w B C 2 n (prs l)) (hB : B ≤ w.heap.size) (hn : n ≤ 17592186044416) :
    Calls Try.prog 19 #[.slice C n k] w fun e w' => e = .returned (.tuple #[.pointer none, .int .i64 (classesE l)]) ∧ Keeps (fun _ => False) w w' := by
  have HCk := hide (acheck_any l hw C n k B w hr hB hn)
  obtain ⟨ev, hev⟩ : ∃ ev, ev = classesE l := ⟨_, rfl⟩
  rw [← hev] at HCk hE ⊢
  have e0 : (ev != 0) = true := by simpa using hE
  have e1 : (ev == 0) = false := by simpa using hE
  clear hr hev hw
  go_enter Try.func19, Try.ntmps19
  go_wp2_with fail
  refine HCk.out.mono ?_
  rintro e w1 ⟨rfl, k1⟩
  have K1 := hide k1
  clear k1 HCk
  go_wp2_with fail
  go_ret2
  exact ⟨rfl, K1.out⟩
end Go.Proofs.Ytidobhflijdccaa
