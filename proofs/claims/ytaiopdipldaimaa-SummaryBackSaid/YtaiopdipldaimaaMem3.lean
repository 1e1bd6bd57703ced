
/-
  append of zeros ('append(b, make([]byte, n)...)') and of a string's bytes onto slices of the call's own.
-/
import Derived.Test.YtaiopdipldaimaaMem2
import Derived.Lib.AppendZeros
set_option linter.unusedVariables false
set_option linter.unusedSimpArgs false
namespace Go.Proofs.Ytaiopdipldaimaa
open Go.RowKit Go.ChangeShapes Go.WideShapes
theorem arr2 (A B : Array Value) : (A.toList ++ B.toList).toArray = A ++ B := by apply Array.ext'; simp
theorem arr2l (A : List Value) (B : Array Value) : (A ++ B.toList).toArray = A.toArray ++ B := by apply Array.ext'; simp
theorem wrap0 : IntKind.i64.wrap 0 = 0 := by rw [IntKind.wrap_i64]; rfl
theorem firstCells_string {P : Program} (w : World) (s : ByteArray) : (Builtin.firstCells 1 s.size (.string s)).run P w = .ok (s.data.toList.map by8).toArray w := by
  simp only [Builtin.firstCells]
  have hx : (Array.map (fun b : UInt8 => Value.int IntKind.u8 (b.toNat : Int)) s.data).extract 0 s.size = (s.data.toList.map by8).toArray := by
    have hs : s.size = (Array.map (fun b : UInt8 => Value.int IntKind.u8 (b.toNat : Int)) s.data).size := by rw [Array.size_map]; rfl
    rw [hs, Array.extract_size]
    apply Array.ext'
    simp
  simp [hx]
  apply Array.ext'
  simp
section
variable {P : Program}
theorem appz_run (w : World) (t tx ty e : TypeId) (i : TypeInfo) (z : Value) (k kn : IntKind) (m : Nat) (ht : P.underlying t = some (.slice e)) (htx : P.underlying tx = some (.int kn)) (hi : P.info? e = some i) (hz : i.zero = some z) (hsz : i.size = 1) (hzz : z.cells.size = 1) (hm63 : (m : Int) ≤ 9223372036854775807) (hw : IntKind.i64.wrap (m : Int) = m) (hneg : ¬ ((m : Int) < 0)) (h48i : ¬ (281474976710656 < (m : Int) * (i.bytes : Int))) (hsize : (Builtin.zeroCells z.cells m).size = m) (hone : ∀ u ∈ (Builtin.zeroCells z.cells m).toList, u.oneCell' = true)
    (A : Option Addr) (n c : Nat) (xs : List Value) (hown : Own w 0 e 1 A n c xs) (h63 : n + m ≤ maxLen) (hbytes : (n + m) * i.bytes ≤ 140737488355328) (hb1 : 1 ≤ i.bytes) :
    ∃ A' c' w', (Builtin.append_ #[t, tx] ty #[.slice A n c, .int k (m : Int)]).run P w = .ok (.slice A' (n + m) c') w' ∧
      ((w' = w ∧ A' = A ∧ c' = c ∧ m = 0) ∨ (∃ g cap cur, A = some ⟨g, 0, none⟩ ∧ A' = A ∧ c' = c ∧ w.heap[g]? = some (.cells cur e (0, 0)) ∧ w' = w.setRow g (cur.toList.take n ++ (Builtin.zeroCells z.cells m).toList ++ cur.toList.drop (n + m)).toArray ∧ n + m ≤ c ∧ cap = c) ∨
        (∃ zs, A' = some ⟨w.heap.size, 0, none⟩ ∧ n + m ≤ c' ∧ c' ≤ maxLen ∧ w' = w.drew.alloc (.cells (xs ++ (Builtin.zeroCells z.cells m).toList ++ zs).toArray e) ∧ zs.length = c' - (n + m))) := by
  have h63' : ¬ (9223372036854775807 < ((n : Int) + (m : Nat))) := by simp only [maxLen] at h63; omega
  have hxl : xs.length = n := by simpa using hown.len
  rcases hown.2 with ⟨hv, hn0⟩ | ⟨g, cap, cur, hv, hbg, hg, hnc, hcm, hcs, htake⟩
  · injection hv with h1 h2 h3
    subst h1 h2 h3
    obtain rfl : xs = [] := List.eq_nil_of_length_eq_zero hxl
    by_cases hm : m = 0
    · refine ⟨none, 0, w, ?_, .inl ⟨rfl, rfl, rfl, hm⟩⟩
      (subst hm; simp [Builtin.append_, run_underlying ht, run_underlying htx, sizeOf, typeInfo, zeroValue, hi, hz, hsz, Question.forced, newRow, grownCap, asInt, asIntOf, wrap0])
    · simp only [Nat.zero_add] at hbytes
      have h48' : ¬ (281474976710656 < Builtin.nextslicecap m 0 * i.bytes) := by rw [nextslicecap_zero (by omega)]; omega
      have h63x : ¬ (9223372036854775807 < ((m : Nat) : Int)) := by omega
      have hge := grownCap_ge w (m) 0 e
      refine ⟨some ⟨w.heap.size, 0, none⟩, grownCap w m 0 e, w.drew.alloc (.cells ((Builtin.zeroCells z.cells m).toList ++ (Builtin.zeroCells z.cells (grownCap w m 0 e - m)).toList).toArray e), ?_, .inr (.inr ⟨(Builtin.zeroCells z.cells (grownCap w m 0 e - m)).toList, rfl, by omega, grownCap_le_maxLen w m 0 e (by omega), by simp, by simp [size_zeroCells, hzz]⟩)⟩
      (have h0 : ¬ (m * 1 = 0) := by omega); rw [arr2]; simp [Builtin.append_, run_underlying ht, run_underlying htx, sizeOf, typeInfo, zeroValue, hi, hz, hsz, Question.forced, newRow, grownCap, asInt, asIntOf, hw, hneg, h48i, hm, h63x, h48', run_firstCells_none]
  · injection hv with h1 h2 h3
    subst h1 h3
    rw [Nat.mul_one] at hcs htake
    by_cases hroom : n + m ≤ c
    · have hst := run_storeCells_at P g n e ((Builtin.zeroCells z.cells m).toList) 0 cur w hg (by simp; omega) hone
      simp only [Nat.add_zero] at hst
      refine ⟨some ⟨g, 0, none⟩, c, _, ?_, .inr (.inl ⟨g, c, cur, rfl, rfl, rfl, hg, rfl, hroom, rfl⟩)⟩
      by_cases hm : m = 0
      · (subst hm; have h7 : (Builtin.zeroCells z.cells 0).toList = [] := by simp [Builtin.zeroCells]); rw [h7] at hst ⊢; simp at hst; (have hroom' : n ≤ c := hroom); simp [hroom', Addr.add_lit, Builtin.append_, run_underlying ht, run_underlying htx, sizeOf, typeInfo, zeroValue, hi, hz, hsz, Question.forced, newRow, grownCap, asInt, asIntOf, wrap0, hst]
      · (have h0 : ¬ (m * 1 = 0) := by omega); simp [Builtin.append_, run_underlying ht, run_underlying htx, sizeOf, typeInfo, zeroValue, hi, hz, hsz, Question.forced, newRow, grownCap, asInt, asIntOf, hw, hneg, h48i, hm, hroom, hsize, Addr.add_lit, hst]
    · have hgb : ¬ (281474976710656 < Builtin.nextslicecap (n + m) c * i.bytes) := by exact Nat.not_lt.2 (growslice_fits (by omega) hbytes)
      have hge := grownCap_ge w (n + m) c e
      have holds : ∀ j u, xs[j]? = some u → w.cell? ((⟨g, 0, none⟩ : Addr).add j) = some u := hown.cells (g := g) rfl
      have hfo := run_firstCells_some (P := P) w.drew i.size n ⟨g, 0, none⟩ n c xs (by rw [hsz]; omega) (by simpa using holds)
      rw [hsz] at hfo
      refine ⟨some ⟨w.heap.size, 0, none⟩, grownCap w (n + m) c e, w.drew.alloc (.cells (xs ++ (Builtin.zeroCells z.cells m).toList ++ (Builtin.zeroCells z.cells (grownCap w (n + m) c e - (n + m))).toList).toArray e), ?_, .inr (.inr ⟨(Builtin.zeroCells z.cells (grownCap w (n + m) c e - (n + m))).toList, rfl, by omega, grownCap_le_maxLen w (n + m) c e h63, rfl, by simp [size_zeroCells, hzz]⟩)⟩
      (have hm : ¬ m = 0 := by omega); (have hng : ¬ n + m ≤ c := hroom); simp [Builtin.append_, run_underlying ht, run_underlying htx, sizeOf, typeInfo, zeroValue, hi, hz, hsz, Question.forced, newRow, grownCap, asInt, asIntOf, hw, hneg, h48i, hm, hng, h63', hgb, hfo]; congr 2; apply Array.ext'; simp [List.append_assoc]
theorem apps_run (w : World) (t tx ty e : TypeId) (i : TypeInfo) (z : Value) (s : ByteArray) (ht : P.underlying t = some (.slice e)) (htx : P.underlying tx = some .string) (hi : P.info? e = some i) (hz : i.zero = some z) (hsz : i.size = 1) (hzz : z.cells.size = 1) (hm63 : (s.size : Int) ≤ 9223372036854775807)
    (A : Option Addr) (n c : Nat) (xs : List Value) (hown : Own w 0 e 1 A n c xs) (h63 : n + s.size ≤ maxLen) (hbytes : (n + s.size) * i.bytes ≤ 140737488355328) (hb1 : 1 ≤ i.bytes) :
    ∃ A' c' w', (Builtin.append_ #[t, tx] ty #[.slice A n c, .string s]).run P w = .ok (.slice A' (n + s.size) c') w' ∧
      ((w' = w ∧ A' = A ∧ c' = c ∧ s.size = 0) ∨ (∃ g cap cur, A = some ⟨g, 0, none⟩ ∧ A' = A ∧ c' = c ∧ w.heap[g]? = some (.cells cur e (0, 0)) ∧ w' = w.setRow g (cur.toList.take n ++ s.data.toList.map by8 ++ cur.toList.drop (n + s.size)).toArray ∧ n + s.size ≤ c ∧ cap = c) ∨
        (∃ zs, A' = some ⟨w.heap.size, 0, none⟩ ∧ n + s.size ≤ c' ∧ c' ≤ maxLen ∧ w' = w.drew.alloc (.cells (xs ++ s.data.toList.map by8 ++ zs).toArray e) ∧ zs.length = c' - (n + s.size))) := by
  have h63' : ¬ (9223372036854775807 < ((n : Int) + (s.size : Nat))) := by simp only [maxLen] at h63; omega
  have hxl : xs.length = n := by simpa using hown.len
  rcases hown.2 with ⟨hv, hn0⟩ | ⟨g, cap, cur, hv, hbg, hg, hnc, hcm, hcs, htake⟩
  · injection hv with h1 h2 h3
    subst h1 h2 h3
    obtain rfl : xs = [] := List.eq_nil_of_length_eq_zero hxl
    by_cases hm : s.size = 0
    · refine ⟨none, 0, w, ?_, .inl ⟨rfl, rfl, rfl, hm⟩⟩
      (have h5 := firstCells_string (P := P) w s; rw [hm] at h5; have h6 : s.data.toList.map by8 = [] := List.eq_nil_of_length_eq_zero (by rw [List.length_map]; exact hm); rw [h6] at h5); simp [Builtin.append_, run_underlying ht, run_underlying htx, sizeOf, typeInfo, hi, hsz, Builtin.lenOf, hm, h5]
    · simp only [Nat.zero_add] at hbytes
      have h48' : ¬ (281474976710656 < Builtin.nextslicecap s.size 0 * i.bytes) := by rw [nextslicecap_zero (by omega)]; omega
      have h63x : ¬ (9223372036854775807 < ((s.size : Nat) : Int)) := by omega
      have hge := grownCap_ge w (s.size) 0 e
      refine ⟨some ⟨w.heap.size, 0, none⟩, grownCap w s.size 0 e, w.drew.alloc (.cells (s.data.toList.map by8 ++ (Builtin.zeroCells z.cells (grownCap w s.size 0 e - s.size)).toList).toArray e), ?_, .inr (.inr ⟨(Builtin.zeroCells z.cells (grownCap w s.size 0 e - s.size)).toList, rfl, by omega, grownCap_le_maxLen w s.size 0 e (by omega), by simp, by simp [size_zeroCells, hzz]⟩)⟩
      rw [arr2l]; simp [Builtin.append_, run_underlying ht, run_underlying htx, sizeOf, typeInfo, zeroValue, hi, hz, hsz, Question.forced, newRow, grownCap, Builtin.lenOf, firstCells_string, run_firstCells_none, hm, h63x, h48']
  · injection hv with h1 h2 h3
    subst h1 h3
    rw [Nat.mul_one] at hcs htake
    by_cases hroom : n + s.size ≤ c
    · have hst := run_storeCells_at P g n e (s.data.toList.map by8) 0 cur w hg (by simp; omega) (by8_one _)
      simp only [Nat.add_zero] at hst
      refine ⟨some ⟨g, 0, none⟩, c, _, ?_, .inr (.inl ⟨g, c, cur, rfl, rfl, rfl, hg, rfl, hroom, rfl⟩)⟩
      simp [Builtin.append_, run_underlying ht, run_underlying htx, sizeOf, typeInfo, zeroValue, hi, hz, hsz, Question.forced, newRow, grownCap, Builtin.lenOf, firstCells_string, hroom, Addr.add_lit, hst]
      skip
      skip
    · have hgb : ¬ (281474976710656 < Builtin.nextslicecap (n + s.size) c * i.bytes) := by exact Nat.not_lt.2 (growslice_fits (by omega) hbytes)
      have hge := grownCap_ge w (n + s.size) c e
      have holds : ∀ j u, xs[j]? = some u → w.cell? ((⟨g, 0, none⟩ : Addr).add j) = some u := hown.cells (g := g) rfl
      have hfo := run_firstCells_some (P := P) w.drew i.size n ⟨g, 0, none⟩ n c xs (by rw [hsz]; omega) (by simpa using holds)
      rw [hsz] at hfo
      refine ⟨some ⟨w.heap.size, 0, none⟩, grownCap w (n + s.size) c e, w.drew.alloc (.cells (xs ++ s.data.toList.map by8 ++ (Builtin.zeroCells z.cells (grownCap w (n + s.size) c e - (n + s.size))).toList).toArray e), ?_, .inr (.inr ⟨(Builtin.zeroCells z.cells (grownCap w (n + s.size) c e - (n + s.size))).toList, rfl, by omega, grownCap_le_maxLen w (n + s.size) c e h63, rfl, by simp [size_zeroCells, hzz]⟩)⟩
      (have hng : ¬ n + s.size ≤ c := hroom); simp [Builtin.append_, run_underlying ht, run_underlying htx, sizeOf, typeInfo, zeroValue, hi, hz, hsz, Question.forced, newRow, grownCap, Builtin.lenOf, firstCells_string, hng, h63', hgb, hfo]; congr 2; apply Array.ext'; simp [List.append_assoc]
/-- what the three ways of an append leave -/
theorem own_of_ways {w : World} {base n c m c' : Nat} {e : TypeId} {A A' : Option Addr} {xs news : List Value} {w' : World} (hown : Own w base e 1 A n c xs) (hbase : base ≤ w.heap.size) (hl : news.length = m)
    (h : (w' = w ∧ A' = A ∧ c' = c ∧ m = 0) ∨ (∃ g cap cur, A = some ⟨g, 0, none⟩ ∧ A' = A ∧ c' = c ∧ w.heap[g]? = some (.cells cur e (0, 0)) ∧ w' = w.setRow g (cur.toList.take n ++ news ++ cur.toList.drop (n + m)).toArray ∧ n + m ≤ c ∧ cap = c) ∨
        (∃ zs, A' = some ⟨w.heap.size, 0, none⟩ ∧ n + m ≤ c' ∧ c' ≤ maxLen ∧ w' = w.drew.alloc (.cells (xs ++ news ++ zs).toArray e) ∧ zs.length = c' - (n + m))) :
    Own w' base e 1 A' (n + m) c' (xs ++ news) ∧ Keeps (inB A) w w' ∧ (∀ k, inB A' k → inB A k ∨ w.heap.size ≤ k) := by
  have hxl : xs.length = n := by simpa using hown.len
  rcases h with ⟨rfl, rfl, rfl, rfl⟩ | ⟨g, cap, cur, rfl, rfl, rfl, hg, rfl, hle, rfl⟩ | ⟨zs, rfl, h1, h2, rfl, h3⟩
  · obtain rfl : news = [] := List.eq_nil_of_length_eq_zero hl
    rw [List.append_nil]
    exact ⟨hown, Keeps.refl _ _, fun k h => .inl h⟩
  · rcases hown.2 with ⟨hv, _⟩ | ⟨g', cap', cur', hv, hbg, hg', hnc, hcm, hcs, htake⟩
    · cases hv
    · injection hv with h1 h2 h3
      injection h1 with h1
      injection h1 with h1
      subst h1 h3
      rw [hg] at hg'
      injection hg' with hg'
      injection hg' with hg'
      subst hg'
      rw [Nat.mul_one] at hcs htake
      refine ⟨⟨by rw [List.length_append, hxl, hl]; omega, .inr ⟨g, cap, _, rfl, hbg, setRow_heap w g cur _ e _ hg, hle, hcm, ?_, ?_⟩⟩, ⟨rfl, rfl, rfl, by simp, fun k _ hk => setRow_other w g k _ (fun he => hk ((inB_some _ _ _).2 he.symm))⟩, fun k h => .inl h⟩
      · simp only [List.size_toArray, List.length_append, List.length_take, List.length_drop, Array.length_toList]
        omega
      · rw [htake, Nat.mul_one]
        have : (xs ++ news).length = n + m := by rw [List.length_append, hxl, hl]
        rw [← this]
        exact List.take_left
  · refine ⟨⟨by rw [List.length_append, hxl, hl]; omega, .inr ⟨w.heap.size, c', _, rfl, hbase, heap_alloc_new w.drew _, h1, h2, by simp; omega, ?_⟩⟩, ((Keeps.refl _ _).drew).alloc _, fun k h => .inr (by have := (inB_some _ _ _).1 h; omega)⟩
    have : (xs ++ news).length = (n + m) * 1 := by rw [List.length_append, hxl, hl]; omega
    rw [← this]
    simp only [List.toList_toArray]
    exact List.take_left
end
/-- 'append(b, make([]byte, z)...)' -/
theorem wpList_app_zero {ops : Array Oper} {rest : List Oper} {o : Oper} {a : Act} {Q : Exit → Act → World → Prop} (w : World) (hgd : o.guard = none) (s x : Operand)
    (ho : o.op = .call { callee := .builtin .append, args := #[s, x], argTypes := #[46, 3] })
    (base : Nat) {A : Option Addr} {n c : Nat} (l : List UInt8) (hs : a.eval s = .slice A n c) (hown : Own w base 5 1 A n c (l.map by8))
    (z : Int) (hx : a.eval x = .int .i64 z) (z0 : 0 ≤ z) (z1 : z ≤ 35184372088832) (hn : n ≤ 35184372088832) (hbase : base ≤ w.heap.size)
    (h : ∀ A' c' w', Own w' base 5 1 A' (n + z.toNat) c' ((l ++ List.replicate z.toNat 0).map by8) → Keeps (inB A) w w' → (∀ k, inB A' k → inB A k ∨ w.heap.size ≤ k) → wpList Try.prog ops Q rest (a.put o.dst (.slice A' (n + z.toNat) c')) w') : wpList Try.prog ops Q (o :: rest) a w := by
  obtain ⟨m, rfl⟩ : ∃ m : Nat, z = (m : Int) := ⟨z.toNat, by omega⟩
  have hi : (Try.prog.info? 5).map (fun i => (i.zero, i.size, i.bytes)) = some (some (.int .u8 0), 1, 1) := by kernel_rfl
  obtain ⟨i, h1, h2, h3, h4⟩ := info_parts hi
  have hzc : Builtin.zeroCells (Value.int .u8 0).cells m = (List.replicate m (Value.int .u8 0)).toArray := by
    apply Array.ext'
    rw [show (Value.int .u8 0).cells = #[Value.int .u8 0] from rfl]
    refine List.ext_getElem (by simp [Builtin.zeroCells]) (fun j h1 h2 => ?_)
    simp [Builtin.zeroCells, Nat.mod_one]
  obtain ⟨A', c', w', hrun, hw⟩ := appz_run (P := Try.prog) w 46 3 o.type 5 i (.int .u8 0) .i64 .i64 m Try.underlying46 Try.underlying3 h1 h2 h3 rfl (by omega) (by rw [IntKind.wrap_i64]; omega) (by omega) (by rw [h4]; omega)
    (by rw [hzc]; simp) (by rw [hzc]; intro u hu; simp at hu; rw [hu.2]; rfl) A n c (l.map by8) (hown.base_le (Nat.zero_le _)) (by simp only [maxLen]; omega) (by rw [h4]; omega) (by rw [h4]; omega)
  have hnews : (Builtin.zeroCells (Value.int .u8 0).cells m).toList = (List.replicate m 0).map by8 := by rw [hzc]; simp [by8]
  rw [hnews] at hw
  obtain ⟨k1, k2, k3⟩ := own_of_ways hown hbase (by simp) hw
  refine Lib.wpList_append_run w hgd s x 46 3 ho _ _ hs hx _ _ hrun ?_
  rw [← List.map_append] at k1
  simp only [Int.toNat_natCast] at h
  exact h A' c' w' k1 k2 k3
/-- 'append(b, s...)', s a string -/
theorem wpList_app_text {ops : Array Oper} {rest : List Oper} {o : Oper} {a : Act} {Q : Exit → Act → World → Prop} (w : World) (hgd : o.guard = none) (s x : Operand)
    (ho : o.op = .call { callee := .builtin .append, args := #[s, x], argTypes := #[46, 9] })
    (base : Nat) {A : Option Addr} {n c : Nat} (l : List UInt8) (hs : a.eval s = .slice A n c) (hown : Own w base 5 1 A n c (l.map by8))
    (b : ByteArray) (hx : a.eval x = .string b) (hb : b.size ≤ 35184372088832) (hn : n ≤ 35184372088832) (hbase : base ≤ w.heap.size)
    (h : ∀ A' c' w', Own w' base 5 1 A' (n + b.size) c' ((l ++ b.data.toList).map by8) → Keeps (inB A) w w' → (∀ k, inB A' k → inB A k ∨ w.heap.size ≤ k) → wpList Try.prog ops Q rest (a.put o.dst (.slice A' (n + b.size) c')) w') : wpList Try.prog ops Q (o :: rest) a w := by
  have hi : (Try.prog.info? 5).map (fun i => (i.zero, i.size, i.bytes)) = some (some (.int .u8 0), 1, 1) := by kernel_rfl
  obtain ⟨i, h1, h2, h3, h4⟩ := info_parts hi
  obtain ⟨A', c', w', hrun, hw⟩ := apps_run (P := Try.prog) w 46 9 o.type 5 i (.int .u8 0) b Try.underlying46 Try.underlying9 h1 h2 h3 rfl (by omega) A n c (l.map by8) (hown.base_le (Nat.zero_le _)) (by simp only [maxLen]; omega) (by rw [h4]; omega) (by rw [h4]; omega)
  obtain ⟨k1, k2, k3⟩ := own_of_ways hown hbase (by simp) hw
  refine Lib.wpList_append_run w hgd s x 46 9 ho _ _ hs hx _ _ hrun ?_
  rw [← List.map_append] at k1
  exact h A' c' w' k1 k2 k3
end Go.Proofs.Ytaiopdipldaimaa
