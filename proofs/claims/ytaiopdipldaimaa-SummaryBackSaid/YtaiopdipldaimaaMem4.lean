
/-
  append of a slice onto a slice of the call's own, elements of one cell: and what the old slice still holds.
-/
import Derived.Test.YtaiopdipldaimaaMem3
set_option linter.unusedVariables false
set_option linter.unusedSimpArgs false
namespace Go.Proofs.Ytaiopdipldaimaa
open Go.RowKit Go.ChangeShapes Go.WideShapes
section
variable {P : Program}
theorem appl_run (w : World) (t tx ty e : TypeId) (i : TypeInfo) (z : Value) (e2 : TypeId) (ad : Addr) (m c2 : Nat) (news : List Value) (ht : P.underlying t = some (.slice e)) (htx : P.underlying tx = some (.slice e2)) (hi : P.info? e = some i) (hz : i.zero = some z) (hsz : i.size = 1) (hzz : z.cells.size = 1) (hlen : news.length = m) (hnews : ∀ j u, news[j]? = some u → w.cell? (ad.add j) = some u) (hone : ∀ u ∈ news, u.oneCell' = true)
    (A : Option Addr) (n c : Nat) (xs : List Value) (hown : Own w 0 e 1 A n c xs) (h63 : n + m ≤ maxLen) (hbytes : (n + m) * i.bytes ≤ 140737488355328) (hb1 : 1 ≤ i.bytes) :
    ∃ A' c' w', (Builtin.append_ #[t, tx] ty #[.slice A n c, .slice (some ad) m c2]).run P w = .ok (.slice A' (n + m) c') w' ∧
      ((w' = w ∧ A' = A ∧ c' = c ∧ m = 0) ∨ (∃ g cap cur, A = some ⟨g, 0, none⟩ ∧ A' = A ∧ c' = c ∧ w.heap[g]? = some (.cells cur e (0, 0)) ∧ w' = w.setRow g (cur.toList.take n ++ news ++ cur.toList.drop (n + m)).toArray ∧ n + m ≤ c ∧ cap = c) ∨
        (∃ zs, A' = some ⟨w.heap.size, 0, none⟩ ∧ n + m ≤ c' ∧ c' ≤ maxLen ∧ w' = w.drew.alloc (.cells (xs ++ news ++ zs).toArray e) ∧ zs.length = c' - (n + m))) := by
  have h63' : ¬ (9223372036854775807 < ((n : Int) + (m : Nat))) := by simp only [maxLen] at h63; omega
  have hxl : xs.length = n := by simpa using hown.len
  rcases hown.2 with ⟨hv, hn0⟩ | ⟨g, cap, cur, hv, hbg, hg, hnc, hcm, hcs, htake⟩
  · injection hv with h1 h2 h3
    subst h1 h2 h3
    obtain rfl : xs = [] := List.eq_nil_of_length_eq_zero hxl
    by_cases hm : m = 0
    · refine ⟨none, 0, w, ?_, .inl ⟨rfl, rfl, rfl, hm⟩⟩
      (have hf := run_firstCells_some (P := P) w 1 m ad m c2 news (by omega) hnews); (subst hm; obtain rfl : news = [] := List.eq_nil_of_length_eq_zero hlen); simp [Builtin.append_, run_underlying ht, run_underlying htx, sizeOf, typeInfo, hi, hsz, Builtin.lenOf, hf]
    · simp only [Nat.zero_add] at hbytes
      have h48' : ¬ (281474976710656 < Builtin.nextslicecap m 0 * i.bytes) := by rw [nextslicecap_zero (by omega)]; omega
      have h63x : ¬ (9223372036854775807 < ((m : Nat) : Int)) := by omega
      have hge := grownCap_ge w (m) 0 e
      refine ⟨some ⟨w.heap.size, 0, none⟩, grownCap w m 0 e, w.drew.alloc (.cells (news ++ (Builtin.zeroCells z.cells (grownCap w m 0 e - m)).toList).toArray e), ?_, .inr (.inr ⟨(Builtin.zeroCells z.cells (grownCap w m 0 e - m)).toList, rfl, by omega, grownCap_le_maxLen w m 0 e (by omega), by simp, by simp [size_zeroCells, hzz]⟩)⟩
      (have hf := run_firstCells_some (P := P) w.drew 1 m ad m c2 news (by omega) (by simpa using hnews)); rw [arr2l]; simp [Builtin.append_, run_underlying ht, run_underlying htx, sizeOf, typeInfo, zeroValue, hi, hz, hsz, Question.forced, newRow, grownCap, Builtin.lenOf, hf, run_firstCells_none, hm, h63x, h48']
  · injection hv with h1 h2 h3
    subst h1 h3
    rw [Nat.mul_one] at hcs htake
    by_cases hroom : n + m ≤ c
    · have hst := run_storeCells_at P g n e (news) 0 cur w hg (by simp; omega) hone
      simp only [Nat.add_zero] at hst
      refine ⟨some ⟨g, 0, none⟩, c, _, ?_, .inr (.inl ⟨g, c, cur, rfl, rfl, rfl, hg, rfl, hroom, rfl⟩)⟩
      (have hf := run_firstCells_some (P := P) w 1 m ad m c2 news (by omega) hnews); simp [Builtin.append_, run_underlying ht, run_underlying htx, sizeOf, typeInfo, hi, hsz, Builtin.lenOf, hf, hroom, hlen, Addr.add_lit, hst]
      skip
      skip
    · have hgb : ¬ (281474976710656 < Builtin.nextslicecap (n + m) c * i.bytes) := by exact Nat.not_lt.2 (growslice_fits (by omega) hbytes)
      have hge := grownCap_ge w (n + m) c e
      have holds : ∀ j u, xs[j]? = some u → w.cell? ((⟨g, 0, none⟩ : Addr).add j) = some u := hown.cells (g := g) rfl
      have hfo := run_firstCells_some (P := P) w.drew i.size n ⟨g, 0, none⟩ n c xs (by rw [hsz]; omega) (by simpa using holds)
      rw [hsz] at hfo
      refine ⟨some ⟨w.heap.size, 0, none⟩, grownCap w (n + m) c e, w.drew.alloc (.cells (xs ++ news ++ (Builtin.zeroCells z.cells (grownCap w (n + m) c e - (n + m))).toList).toArray e), ?_, .inr (.inr ⟨(Builtin.zeroCells z.cells (grownCap w (n + m) c e - (n + m))).toList, rfl, by omega, grownCap_le_maxLen w (n + m) c e h63, rfl, by simp [size_zeroCells, hzz]⟩)⟩
      (have hf := run_firstCells_some (P := P) w.drew 1 m ad m c2 news (by omega) (by simpa using hnews)); (have hng : ¬ n + m ≤ c := hroom); simp [Builtin.append_, run_underlying ht, run_underlying htx, sizeOf, typeInfo, zeroValue, hi, hz, hsz, Question.forced, newRow, grownCap, Builtin.lenOf, hf, hng, h63', hgb, hfo]; congr 2; apply Array.ext'; simp [List.append_assoc]
/-- the old slice still reads as it did -/
theorem old_of_ways {w : World} {base n c m c' : Nat} {e : TypeId} {A A' : Option Addr} {xs news : List Value} {w' : World} (hown : Own w base e 1 A n c xs)
    (h : (w' = w ∧ A' = A ∧ c' = c ∧ m = 0) ∨ (∃ g cap cur, A = some ⟨g, 0, none⟩ ∧ A' = A ∧ c' = c ∧ w.heap[g]? = some (.cells cur e (0, 0)) ∧ w' = w.setRow g (cur.toList.take n ++ news ++ cur.toList.drop (n + m)).toArray ∧ n + m ≤ c ∧ cap = c) ∨
        (∃ zs, A' = some ⟨w.heap.size, 0, none⟩ ∧ n + m ≤ c' ∧ c' ≤ maxLen ∧ w' = w.drew.alloc (.cells (xs ++ news ++ zs).toArray e) ∧ zs.length = c' - (n + m))) : Rd w' w'.heap.size A 1 n xs := by
  have hr := hown.rd (by omega)
  have hxl : xs.length = n := by simpa using hown.len
  rcases h with ⟨rfl, rfl, rfl, rfl⟩ | ⟨g, cap, cur, rfl, rfl, rfl, hg, rfl, hle, rfl⟩ | ⟨zs, rfl, h1, h2, rfl, h3⟩
  · exact hr
  · refine ⟨hr.1, fun hn => ⟨g, 0, rfl, ?_, fun j u hu => ?_⟩⟩
    · have := lt_of_block hg
      simpa using this
    · have hj : j < n := by have := (List.getElem?_eq_some_iff.1 hu).1; omega
      have hc := hown.cell j (by omega)
      rw [cell_of_row w g j cur e (0, 0) hg] at hc
      rw [Nat.zero_add, cell_of_row _ g j _ e (0, 0) (setRow_heap w g cur _ e _ hg)]
      rw [← hu, ← hc]
      have hcl : n ≤ cur.size := by
        have := (Array.getElem?_eq_some_iff.1 (hc.trans hu)).1
        rcases hown.2 with ⟨hv, _⟩ | ⟨g', cap', cur', hv, hbg, hg', hnc, hcm, hcs, htake⟩
        · cases hv
        · injection hv with e1 e2 e3
          injection e1 with e1
          injection e1 with e1
          subst e1
          rw [hg] at hg'
          injection hg' with hg'
          injection hg' with hg'
          subst hg'
          omega
      simp only [List.getElem?_toArray]
      rw [List.append_assoc, List.getElem?_append_left (by rw [List.length_take, Array.length_toList]; omega), List.getElem?_take, if_pos hj]
      simp
  · have k : Keeps (fun _ => False) w (w.drew.alloc (.cells (xs ++ news ++ zs).toArray e)) := ((Keeps.refl _ w).drew).alloc _
    exact (hr.kept k (fun _ _ h => h)).more k.size

theorem wpList_app1 {ops : Array Oper} {rest : List Oper} {o : Oper} {a : Act} {Q : Exit → Act → World → Prop} (w : World) {t e : TypeId} {bytes : Nat} (E : ElemOf P t e 1 bytes) (hb1 : 1 ≤ bytes) (hgd : o.guard = none) (s x : Operand)
    (ho : o.op = .call { callee := .builtin .append, args := #[s, x], argTypes := #[t, t] })
    (base : Nat) {A : Option Addr} {n c : Nat} (xs : List Value) (hs : a.eval s = .slice A n c) (hown : Own w base e 1 A n c xs)
    (B : Nat) {A2 : Option Addr} {m c2 : Nat} (news : List Value) (hx : a.eval x = .slice A2 m c2) (hm : 0 < m) (hr : Rd w B A2 1 m news) (h1 : ∀ u ∈ news, u.oneCell' = true)
    (h63 : n + m ≤ maxLen) (hbytes : (n + m) * bytes ≤ 140737488355328) (hbase : base ≤ w.heap.size)
    (h : ∀ A' c' w', Own w' base e 1 A' (n + m) c' (xs ++ news) → Keeps (inB A) w w' → (∀ k, inB A' k → inB A k ∨ w.heap.size ≤ k) → Rd w' w'.heap.size A 1 n xs → wpList P ops Q rest (a.put o.dst (.slice A' (n + m) c')) w') : wpList P ops Q (o :: rest) a w := by
  obtain ⟨ht, ⟨i, z, hi, hz, hsize, hby, hzs⟩, hpos⟩ := E
  obtain ⟨b, off, rfl, hb, hc⟩ := hr.2 hm
  have hnl : news.length = m := by simpa using hr.1
  obtain ⟨A', c', w', hrun, hw⟩ := appl_run (P := P) w t t o.type e i z e ⟨b, off, none⟩ m c2 news ht ht hi hz hsize hzs hnl (fun j u hu => by rw [add_plain]; exact hc j u hu) h1 A n c xs (hown.base_le (Nat.zero_le _)) h63 (by rw [hby]; exact hbytes) (by omega)
  obtain ⟨k1, k2, k3⟩ := own_of_ways hown hbase hnl hw
  have k4 := old_of_ways hown hw
  exact Lib.wpList_append_run w hgd s x t t ho _ _ hs hx _ _ hrun (h A' c' w' k1 k2 k3 k4)
end
end Go.Proofs.Ytaiopdipldaimaa
