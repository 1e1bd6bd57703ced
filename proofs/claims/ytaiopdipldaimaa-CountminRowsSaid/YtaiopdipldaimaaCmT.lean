/-
  countmin: Rows; the reference's comparisons of words and of rows.
-/
import Derived.Test.YtaiopdipldaimaaCmR
set_option linter.unusedVariables false
set_option linter.unusedSimpArgs false
namespace Go.Proofs.Ytaiopdipldaimaa
open Go.RowKit

/-- what Rows leaves: copies of the rows -/
def RowsMade (w : World) (d n : Nat) (R : Cmp.Rows) (e : Ending) (w' : World) : Prop :=
  ∃ (C : Option Addr) (co : Nat) (F : RowsF), e = .returned (.slice C d co) ∧ Rd w' w'.heap.size C 1 d ((List.range d).map fun j => .slice (F j).1 (F j).2.1 (F j).2.2.1) ∧ RowsRd w' w'.heap.size .u64 d F ∧
    (∀ i, i < d → (F i).2.1 = n ∧ (F i).2.2.2 = R.getD i []) ∧ Keeps (fun _ => False) w w'
/-- while the rows are copied -/
def CRel (w : World) (n : Nat) (R : Cmp.Rows) (k : Nat) (out : Value) (wr : World) : Prop :=
  ∃ (C : Option Addr) (co : Nat) (F : RowsF), out = .slice C k co ∧ Own wr w.heap.size 31 1 C k co ((List.range k).map fun j => .slice (F j).1 (F j).2.1 (F j).2.2.1) ∧
    (∀ i, i < k → (F i).2.1 = n ∧ (F i).2.2.2 = R.getD i [] ∧ (F i).2.1 ≤ (F i).2.2.1 ∧ (F i).2.2.1 ≤ maxLen ∧ Own wr w.heap.size 24 1 (F i).1 n (F i).2.2.1 ((R.getD i []).map (.int .u64))) ∧ Keeps (fun _ => False) w wr
theorem Own.capm {w : World} {base n c sz : Nat} {e : TypeId} {A : Option Addr} {xs : List Value} (h : Own w base e sz A n c xs) : n ≤ c ∧ c ≤ maxLen := by
  rcases h.form with ⟨_, h1, h2⟩ | ⟨g, _, _, _, h1, h2⟩
  · subst h1 h2; exact ⟨Nat.le_refl _, Nat.zero_le _⟩
  · exact ⟨h1, h2⟩
theorem CRel.done {w wr : World} {n d : Nat} {R : Cmp.Rows} {total : Int} {out : Value} (hf : Cmp.Fine R d n total) (ht : total ≤ 9223372036854775808) (h : CRel w n R d out wr) : RowsMade w d n R (.returned out) wr := by
  obtain ⟨C, co, F, rfl, o, hrow, kp⟩ := h
  refine ⟨C, co, F, rfl, o.rd (by omega), fun j hj => ?_, fun i hi => ⟨(hrow i hi).1, (hrow i hi).2.1⟩, kp⟩
  obtain ⟨h1, h2, h3, h4, h5⟩ := hrow j hj
  rw [h2]
  refine ⟨?_, fine_wf hf ht j hj, h3, h4⟩
  rw [h1]
  exact h5.rd (by omega)

set_option maxRecDepth 100000 in
set_option maxHeartbeats 1000000 in
theorem rows_rel {w : World} {lo hi g d n : Nat} {R : Cmp.Rows} {zs : List Int} {seed total : Int} {bs : Nat → Nat} {bt ct : Nat} (h : Sk w lo hi g d n R zs seed total bs bt ct) :
    Calls Try.prog 33 #[.pointer (some ⟨g, 0, none⟩)] w fun e w' => ∃ out, e = .returned out ∧ CRel w n R d out w' := by
  have hd := h.dd
  have hn := h.nn
  have ht := h.tt
  have hfine := h.fine
  have HF := hide hfine
  obtain ⟨c7, c0, f7⟩ := h.tot
  have HSK := hide h
  clear h hfine
  have hd0 : (0 : Int) ≤ (d : Int) := by omega
  have hd4 : (d : Int) ≤ 4 := by omega
  go_enter Try.func33, Try.ntmps33
  go_wp2_with fail
  go_quiet (fail)
  go_wp2_with fail
  go_loopw [3, 17] (fun out i wr => ∃ k : Nat, k ≤ d ∧ i = .int .i64 k ∧ CRel w n R k out wr) (fun _ i _ => d - (intOf i).toNat)
  case atStart => exact ⟨0, by omega, rfl, none, 0, fun _ => (none, 0, 0, []), rfl, Own.nil _ _ _ _, fun i hi => by omega, (Keeps.refl _ _).drewN _⟩
  case round =>
    obtain ⟨k, hk, rfl, hr⟩ := hrel
    by_cases hlt : k < d
    · obtain ⟨C, co, F, rfl, o, hrow, kp⟩ := hr
      have sk := HSK.out.kept kp (fun _ _ _ h => h)
      obtain ⟨cs, hb, hc0, hcr, _⟩ := sk.blk
      have f1 := hb.cell (1 + k)
      rw [hcr k hlt] at f1
      have hrl := sk.fine.2.1 k hlt
      have hcl := clone_any (c := n) ((sk.rows k hlt).rd (show ((R.getD k []).map (Value.int .u64)).length = n * 1 by simp only [List.length_map]; omega)) (by omega)
      have HCL := hide hcl
      have HO := hide o
      have HROW := hide hrow
      have HKP := hide kp
      have hws := kp.size
      clear sk hb hc0 hcr hrl hcl o hrow kp c7 c0 f7
      go_wp2_with fail
      refine HCL.out.mono ?_
      rintro e w1 ⟨A1, c1, rfl, o1, k1⟩
      have O1 := hide (o1.base_le hws)
      have HO1 := hide (HO.out.kept k1 (fun _ _ h => h))
      have K1 := hide k1
      have hcap := o1.capm
      have hob : ∀ b, inB A1 b → wr.heap.size ≤ b := fun b hb => (o1.inB hb).1
      have HOB := hide hob
      have hw1 := k1.size
      clear o1 k1 hob
      go_wp2_with (at_builtin; refine wpList_app _ elemRow rfl (.tmp 21) (.tmp 24) rfl w.heap.size _ rfl (HO1.out.kept ((Keeps.refl (fun _ => False) w1).alloc _) (fun _ _ h => h)) _ (m := 1) [.slice A1 n c1] rfl (by exact Blk.rd (xs := [.slice A1 n c1]) (Blk.new_at _ _ _ _ (by simp)) rfl) (by simp [Value.oneCell']) (by simp only [maxLen]; omega) (by omega) (by simp; omega) ?_; intro C5 c5 w5 o5 k5 hC5; have O5 := hide o5; have K5 := hide k5; clear o5 k5 hC5)
      have KA := (Keeps.refl (fun _ => False) w1).alloc (.cells #[.slice A1 n c1] 31)
      have hCB : ∀ b, inB C b → w.heap.size ≤ b := fun b hb => (HO.out.inB hb).1
      have hO1 := HO1.out
      go_roundw
      case rel =>
        refine ⟨k + 1, by omega, by go_num, C5, c5, fun j => if j = k then (A1, n, c1, R.getD k []) else F j, rfl, ?_, ?_, ((HKP.out.trans K1.out).trans KA).step K5.out (fun b hb h => by have := hCB b h; omega)⟩
        · have e : ((List.range (k + 1)).map fun j => Value.slice (if j = k then (A1, n, c1, R.getD k []) else F j).1 (if j = k then (A1, n, c1, R.getD k []) else F j).2.1 (if j = k then (A1, n, c1, R.getD k []) else F j).2.2.1) =
              ((List.range k).map fun j => .slice (F j).1 (F j).2.1 (F j).2.2.1) ++ [.slice A1 n c1] := by
            rw [List.range_succ, List.map_append]
            congr 1
            · exact List.map_congr_left fun j hj => by rw [if_neg (by have := List.mem_range.1 hj; omega)]
            · simp
          rw [e]
          exact O5.out
        · intro i hi
          by_cases hik : i = k
          · subst hik
            simp only [if_true]
            refine ⟨trivial, trivial, hcap.1, hcap.2, ?_⟩
            have h1 := O1.out.kept KA (fun _ _ h => h)
            exact h1.kept K5.out (fun b hb h => h1.ne (hO1.kept KA (fun _ _ h => h)) (by decide) hb h)
          · simp only [if_neg hik]
            obtain ⟨g1, g2, g3, g4, g5⟩ := HROW.out i (by omega)
            have h1 := (g5.kept K1.out (fun _ _ h => h)).kept KA (fun _ _ h => h)
            exact ⟨g1, g2, g3, g4, h1.kept K5.out (fun b hb h => h1.ne (hO1.kept KA (fun _ _ h => h)) (by decide) hb h)⟩
      case measure => simp [intOf]; omega
    · obtain rfl : k = d := by omega
      go_wp2_with fail
      have hr2 := hr
      obtain ⟨C, co, F, rfl, _⟩ := hr2
      go_ret
      exact ⟨_, rfl, hr⟩
theorem rows_any {w : World} {lo hi g d n : Nat} {R : Cmp.Rows} {zs : List Int} {seed total : Int} {bs : Nat → Nat} {bt ct : Nat} (h : Sk w lo hi g d n R zs seed total bs bt ct) :
    Calls Try.prog 33 #[.pointer (some ⟨g, 0, none⟩)] w (RowsMade w d n R) :=
  (rows_rel h).mono fun e w' ⟨out, he, hr⟩ => by rw [he]; exact hr.done h.fine h.tt.2

theorem sameWords_any (zs : List Int) (A A2 : Option Addr) (m c c2 B B2 : Nat) (w : World) (hr : Rd w B A 1 m (zs.map (.int .u64))) (hr2 : Rd w B2 A2 1 m (zs.map (.int .u64))) (hm : m ≤ 140737488351232) :
    Calls Try.prog 67 #[.slice A m c, .slice A2 m c2] w fun e w' => e = .returned (.bool true) ∧ ∃ nq, w' = w.drewN nq := by
  have hl : zs.length = m := by simpa using hr.1
  have HL := hide hl
  have HR := hide hr
  have HR2 := hide hr2
  clear hl hr hr2
  go_enter Try.func67, Try.ntmps67
  go_wp2_with fail
  go_loopw [5, 13] (fun _ i wr => ∃ k : Nat, k ≤ m ∧ i = .int .i64 k ∧ ∃ nq, wr = w.drewN nq) (fun _ i _ => m - (intOf i).toNat)
  case atStart => exact ⟨0, by omega, rfl, 0, rfl⟩
  case round =>
    obtain ⟨k, hk, rfl, nq, rfl⟩ := hrel
    by_cases hlt : k < m
    · obtain ⟨b, off, rfl, _, hc⟩ := HR.out.2 (by omega)
      obtain ⟨b2, off2, rfl, _, hc2⟩ := HR2.out.2 (by omega)
      have c1 := hc k (.int .u64 (zs.getD k 0)) (by have := HL.out; simp [List.getD, show k < zs.length by omega])
      have c2' := hc2 k (.int .u64 (zs.getD k 0)) (by have := HL.out; simp [List.getD, show k < zs.length by omega])
      generalize zs.getD k 0 = p at *
      have hltI : (k : Int) < (m : Int) := by omega
      clear hc hc2
      go_wp2_with fail
      go_quiet (fail)
      go_wp2_with fail
      go_roundw
      case rel => exact ⟨k + 1, by omega, by go_num, _, rfl⟩
      case measure => simp [intOf]; omega
    · go_wp2_with fail
      go_ret
      exact ⟨rfl, nq, rfl⟩
theorem sameRows_any (m n : Nat) (F G : RowsF) (A A2 : Option Addr) (c c2 B B2 : Nat) (w : World) (hr : Rd w B A 1 m ((List.range m).map fun j => .slice (F j).1 (F j).2.1 (F j).2.2.1)) (hr2 : Rd w B2 A2 1 m ((List.range m).map fun j => .slice (G j).1 (G j).2.1 (G j).2.2.1))
    (hF : RowsRd w B .u64 m F) (hG : RowsRd w B2 .u64 m G) (he : ∀ i, i < m → (F i).2.1 = n ∧ (G i).2.1 = n ∧ (F i).2.2.2 = (G i).2.2.2) (hm : m ≤ 140737488351232) (hn : n ≤ 140737488351232) :
    Calls Try.prog 36 #[.slice A m c, .slice A2 m c2] w fun e w' => e = .returned (.bool true) ∧ ∃ nq, w' = w.drewN nq := by
  have HR := hide hr
  have HR2 := hide hr2
  have HF := hide hF
  have HG := hide hG
  have HE := hide he
  clear hr hr2 hF hG he
  go_enter Try.func36, Try.ntmps36
  go_wp2_with fail
  go_loopw [5, 13] (fun _ i wr => ∃ k : Nat, k ≤ m ∧ i = .int .i64 k ∧ ∃ nq, wr = w.drewN nq) (fun _ i _ => m - (intOf i).toNat)
  case atStart => exact ⟨0, by omega, rfl, 0, rfl⟩
  case round =>
    obtain ⟨k, hk, rfl, nq, rfl⟩ := hrel
    by_cases hlt : k < m
    · obtain ⟨b, off, rfl, _, hc⟩ := HR.out.2 (by omega)
      obtain ⟨b2, off2, rfl, _, hc2⟩ := HR2.out.2 (by omega)
      have c1 := hc k (.slice (F k).1 (F k).2.1 (F k).2.2.1) (by simp [hlt])
      have c2' := hc2 k (.slice (G k).1 (G k).2.1 (G k).2.2.1) (by simp [hlt])
      obtain ⟨e1, e2, e3⟩ := HE.out k hlt
      have g1 := (HF.out k hlt).1
      have g2 := (HG.out k hlt).1
      rw [e1] at c1 g1
      rw [e2] at c2' g2
      rw [← e3] at g2
      have HS := hide (fun q => sameWords_any (F k).2.2.2 (F k).1 (G k).1 n (F k).2.2.1 (G k).2.2.1 _ _ (w.drewN q) (g1.drewN q) (g2.drewN q) hn)
      generalize (F k).1 = a1 at *
      generalize (G k).1 = a2 at *
      generalize (F k).2.2.1 = x1 at *
      generalize (G k).2.2.1 = x2 at *
      have hltI : (k : Int) < (m : Int) := by omega
      clear hc hc2 e1 e2 e3 g1 g2
      go_wp2_with fail
      go_quiet ((go_at_call 67; first | exact quiet_more (HS.out _) | exact quiet_add (HS.out _)))
      go_wp2_with fail
      go_roundw
      case rel => exact ⟨k + 1, by omega, by go_num, _, rfl⟩
      case measure => simp [intOf]; omega
    · go_wp2_with fail
      go_ret
      exact ⟨rfl, nq, rfl⟩
end Go.Proofs.Ytaiopdipldaimaa
