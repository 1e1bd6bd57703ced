/-
  Slices of the call's own that no longer begin at the head of their block ('held = held[1:]'), and append onto them.
-/
import Derived.Test.YtidobhflijdccaaMem
import Derived.Deep.AppendSrc
set_option linter.unusedVariables false
set_option linter.unusedSimpArgs false
namespace Go.Proofs.Ytidobhflijdccaa
open Go.RowKit Go.ChangeShapes Go.WideShapes

/-- The slice with address A, length n and capacity c lies somewhere in a block of the call's own, and reads as xs; all its cells, the spare too, are there. -/
def OwnT (w : World) (base : Nat) (e : TypeId) (sz : Nat) (A : Option Addr) (n c : Nat) (xs : List Value) : Prop :=
  xs.length = n * sz ∧ n ≤ c ∧ c ≤ maxLen ∧ (0 < c → ∃ g off cur, A = some ⟨g, off, none⟩ ∧ base ≤ g ∧ w.heap[g]? = some (.cells cur e (0, 0)) ∧ off + c * sz ≤ cur.size ∧ ∀ j, j < n * sz → cur[off + j]? = xs[j]?) ∧
    (∀ k, inB A k → base ≤ k ∧ ∃ cur, w.heap[k]? = some (.cells cur e (0, 0)))
section
variable {w w' : World} {S : Nat → Prop} {base n c sz : Nat} {e : TypeId} {A : Option Addr} {xs : List Value}
theorem OwnT.of (h : Own w base e sz A n c xs) : OwnT w base e sz A n c xs := by
  refine ⟨h.len, h.le, ?_, fun hc => ?_, fun k hk => ⟨(h.inB hk).1, ?_⟩⟩
  · rcases h.form with ⟨_, _, h2⟩ | ⟨g, _, _, _, _, h2⟩ <;> simp only [maxLen] at * <;> omega
  · rcases h.2 with ⟨hv, h0⟩ | ⟨g, cap, cur, hv, hb, hg, hn', hcm, hsz, ht⟩
    · injection hv with _ _ h3
      omega
    · injection hv with h1 h2 h3
      subst h1 h3
      refine ⟨g, 0, cur, rfl, hb, hg, by omega, fun j hj => ?_⟩
      rw [Nat.zero_add, ← ht, List.getElem?_take, if_pos hj]
      simp
  · obtain ⟨cs, hb⟩ := h.blk hk
    exact ⟨cs, hb⟩
theorem OwnT.nil (w : World) (base : Nat) (e : TypeId) (sz : Nat) : OwnT w base e sz none 0 0 [] := .of (.nil _ _ _ _)
theorem OwnT.len (h : OwnT w base e sz A n c xs) : xs.length = n * sz := h.1
theorem OwnT.le (h : OwnT w base e sz A n c xs) : n ≤ c := h.2.1
theorem OwnT.kept (h : OwnT w base e sz A n c xs) (k : Keeps S w w') (hs : ∀ b, Go.Proofs.Ytidobhflijdccaa.inB A b → ¬ S b) : OwnT w' base e sz A n c xs := by
  refine ⟨h.1, h.2.1, h.2.2.1, fun hc => ?_, fun b hb => ?_⟩
  · obtain ⟨g, off, cur, rfl, h1, h2, h3⟩ := h.2.2.2.1 hc
    exact ⟨g, off, cur, rfl, h1, (k.block g (lt_of_block h2) (hs g ((inB_some _ _ _).2 rfl))).trans h2, h3⟩
  · obtain ⟨h1, cur, h2⟩ := h.2.2.2.2 b hb
    exact ⟨h1, cur, (k.block b (lt_of_block h2) (hs b hb)).trans h2⟩
theorem OwnT.rd (h : OwnT w base e sz A n c xs) : Rd w w.heap.size A sz n xs := by
  refine ⟨h.1, fun hn => ?_⟩
  obtain ⟨g, off, cur, rfl, h1, h2, h3, h4⟩ := h.2.2.2.1 (by have := h.2.1; omega)
  refine ⟨g, off, rfl, lt_of_block h2, fun j u hu => ?_⟩
  rw [cell_of_row w g (off + j) cur e (0, 0) h2]
  have hj := (List.getElem?_eq_some_iff.1 hu).1
  rw [h.1] at hj
  rw [h4 j hj, hu]
theorem OwnT.inB (h : OwnT w base e sz A n c xs) {k : Nat} (hk : inB A k) : base ≤ k ∧ k < w.heap.size := by
  obtain ⟨h1, cur, h2⟩ := h.2.2.2.2 k hk
  exact ⟨h1, lt_of_block h2⟩
theorem OwnT.blk (h : OwnT w base e sz A n c xs) {b : Nat} (hb : Go.Proofs.Ytidobhflijdccaa.inB A b) : ∃ cs, Blk w b e cs := by
  obtain ⟨_, cur, h2⟩ := h.2.2.2.2 b hb
  exact ⟨cur, h2⟩
/-- 's[x:]' -/
theorem OwnT.drop {P : Program} {t : TypeId} {bytes : Nat} (E : ElemOf P t e sz bytes) (k : IntKind) (x : Int) (h0 : 0 ≤ x) (h1 : x ≤ n) (hnc : n ≤ c) :
    ∃ A', (∀ w, (Instr.sliceAt t (.slice A n c) (some (.int k x)) none none).run P w = .ok (.slice A' (n - x.toNat) (c - x.toNat)) w) ∧
      (∀ w base xs, OwnT w base e sz A n c xs → OwnT w base e sz A' (n - x.toNat) (c - x.toNat) (xs.drop (x.toNat * sz))) ∧ (∀ j, Go.Proofs.Ytidobhflijdccaa.inB A' j → Go.Proofs.Ytidobhflijdccaa.inB A j) := by
  obtain ⟨ht, ⟨i, z, hi, hz, hsize, hby, hzs⟩, hpos⟩ := E
  have hel : P.elem t = e := by simp [Program.elem, ht]
  have hin : ∀ j, Go.Proofs.Ytidobhflijdccaa.inB (if c = x.toNat then A else A.map (·.add (x.toNat * sz))) j → Go.Proofs.Ytidobhflijdccaa.inB A j := by
    intro j hj
    obtain ⟨ad, h, rfl⟩ := hj
    split at h
    · exact ⟨ad, h, rfl⟩
    · cases A with
      | none => cases h
      | some a => simp at h; subst h; exact ⟨a, rfl, by unfold Addr.add; split <;> rfl⟩
  refine ⟨if c = x.toNat then A else A.map (·.add (x.toNat * sz)), fun w => ?_, fun w base xs hr => ⟨?_, ?_, ?_, fun hc => ?_, fun b hb => hr.2.2.2.2 b (hin b hb)⟩, hin⟩
  · rw [run_sliceAt_slice _ _ _ _ _ _ (by rw [hel]; exact ht), run_slice_l _ _ _ _ _ (by rw [hel]; exact ht) _ _ h0 h1]
    simp [sizeOf, typeInfo, hel, hi, hsize, sliced]
  · rw [List.length_drop, hr.1, Nat.sub_mul]
  · omega
  · have := hr.2.2.1
    omega
  · obtain ⟨g, off, cur, rfl, hb, hg, hs, hcells⟩ := hr.2.2.2.1 (by omega)
    rw [if_neg (by omega)]
    refine ⟨g, off + x.toNat * sz, cur, by simp [Addr.add], hb, hg, ?_, fun j hj => ?_⟩
    · have : (c - x.toNat) * sz + x.toNat * sz = c * sz := by rw [← Nat.add_mul]; congr 1; omega
      omega
    · rw [List.getElem?_drop, Nat.add_assoc]
      refine hcells _ ?_
      have : (n - x.toNat) * sz + x.toNat * sz = n * sz := by rw [← Nat.add_mul]; congr 1; omega
      omega
theorem heap_setCells (g : Nat) (e : TypeId) : ∀ (vs : List Value) (o : Nat) (cur : Array Value) (w : World), w.heap[g]? = some (.cells cur e (0, 0)) → o + vs.length ≤ cur.size →
    ∃ cur' : Array Value, (w.setCells g o vs).heap[g]? = some (.cells cur' e (0, 0)) ∧ cur'.size = cur.size ∧ (∀ j, j < o → cur'[j]? = cur[j]?) ∧ (∀ j, j < vs.length → cur'[o + j]? = vs[j]?)
  | [], o, cur, w, h, _ => ⟨cur, h, rfl, fun _ _ => rfl, fun j h => absurd h (Nat.not_lt_zero _)⟩
  | v :: vs, o, cur, w, h, hs => by
    simp only [List.length_cons] at hs
    have h1 := heap_setCell_same w g o cur e v h
    obtain ⟨cur', a1, a2, a3, a4⟩ := heap_setCells g e vs (o + 1) (cur.setIfInBounds o v) (w.setCell ⟨g, o, none⟩ v) h1 (by simp; omega)
    refine ⟨cur', a1, by simpa using a2, fun j hj => ?_, fun j hj => ?_⟩
    · rw [a3 j (by omega), Array.getElem?_setIfInBounds]
      simp [show ¬ o = j by omega]
    · rcases j with _ | j
      · rw [Nat.add_zero, a3 o (by omega), Array.getElem?_setIfInBounds]
        simp [show o < cur.size by omega]
      · have := a4 j (by simp at hj; omega)
        rw [show o + (j + 1) = o + 1 + j by omega, this]
        simp
theorem keeps_setCells {S : Nat → Prop} {a : World} (g : Nat) (hg : S g) : ∀ (vs : List Value) (o : Nat) (w : World), Keeps S a w → Keeps S a (w.setCells g o vs)
  | [], _, _, h => h
  | v :: vs, o, w, h => keeps_setCells g hg vs (o + 1) _ (h.setCell (.inl hg) v)
end
section
variable {P : Program} (w : World)
theorem run_appT {t e : TypeId} {sz bytes : Nat} (E : ElemOf P t e sz bytes) (ty : TypeId) (base : Nat) (A : Option Addr) (n c : Nat) (xs : List Value) (hown : OwnT w base e sz A n c xs)
    (B : Nat) (A2 : Option Addr) (m c2 : Nat) (news : List Value) (hr : Rd w B A2 sz m news) (hm : 0 < m) (h1 : ∀ u ∈ news, u.oneCell' = true)
    (h63 : n + m ≤ maxLen) (hbytes : (n + m) * bytes ≤ 140737488355328) (hbase : base ≤ w.heap.size) :
    ∃ A' c' w', (Builtin.append_ #[t, t] ty #[.slice A n c, .slice A2 m c2]).run P w = .ok (.slice A' (n + m) c') w' ∧ OwnT w' base e sz A' (n + m) c' (xs ++ news) ∧ Keeps (inB A) w w' ∧
      (∀ k, inB A' k → inB A k ∨ w.heap.size ≤ k) := by
  obtain ⟨ht, ⟨i, z, hi, hz, hsize, hby, hzs⟩, hpos⟩ := E
  subst hsize
  subst hby
  obtain ⟨b, off, rfl, hb, hcl⟩ := hr.2 hm
  have hsmall : n + m ≤ 9223372036854775807 := by simp only [maxLen] at h63; omega
  have hsrc : Src P i.size t (.slice (some ⟨b, off, none⟩) m c2) m news w := Src.ofSlice w ht ⟨b, off, none⟩ m c2 news hr.1 (fun j u hu => by rw [add_plain]; exact hcl j u hu) h1
  have hlen : (xs ++ news).length = (n + m) * i.size := by rw [List.length_append, hown.1, hr.1, Nat.add_mul]
  by_cases hroom : n + m ≤ c
  · obtain ⟨g, o, cur, rfl, hbg, hg, hs, hcells⟩ := hown.2.2.2.1 (by omega)
    have hle : n * i.size + news.length ≤ c * i.size := by rw [hr.1, ← Nat.add_mul]; exact Nat.mul_le_mul_right _ hroom
    have hc1 : ∀ j, j < news.length → w.cell? ⟨g, o + n * i.size + j, none⟩ = cur[o + n * i.size + j]? := fun j hj => cell_of_row w g _ cur e (0, 0) hg
    have hrun := run_append_room_src (P := P) w t t ty e i ht hi g o n c _ m news hsrc hroom
      (fun j hj => by rw [hc1 j hj, Array.getElem?_eq_getElem (by omega)]; rfl)
      (fun j hj => by have : Blk w g e cur := hg; exact this.frozen _)
    obtain ⟨cur', a1, a2, a3, a4⟩ := heap_setCells g e news (o + n * i.size) cur w hg (by omega)
    refine ⟨_, _, _, hrun, ⟨hlen, hroom, hown.2.2.1, fun _ => ⟨g, o, cur', rfl, hbg, a1, by omega, fun j hj => ?_⟩, fun k hk => ?_⟩, ?_, fun k hk => .inl hk⟩
    · rw [Nat.add_mul] at hj
      by_cases hj2 : j < n * i.size
      · rw [a3 _ (by omega), hcells j hj2, List.getElem?_append_left (by rw [hown.1]; exact hj2)]
      · have := a4 (j - n * i.size) (by rw [hr.1]; omega)
        rw [show o + n * i.size + (j - n * i.size) = o + j by omega] at this
        rw [this, List.getElem?_append_right (by rw [hown.1]; omega), hown.1]
    · have := (inB_some _ _ _).1 hk
      subst this
      exact ⟨hbg, cur', a1⟩
    · exact keeps_setCells g ((inB_some _ _ _).2 rfl) news _ w (Keeps.refl _ w)
  · have hold : (Builtin.firstCells i.size n (.slice A n c)).run P w.drew = .ok xs.toArray w.drew := by
      rcases Nat.eq_zero_or_pos c with h0 | h0
      · have hn0 : n = 0 := by have := hown.2.1; omega
        subst h0 hn0
        obtain rfl : xs = [] := List.eq_nil_of_length_eq_zero (by simpa using hown.1)
        cases A with
        | none => exact run_firstCells_none _ _ _ _ _
        | some ad => exact run_firstCells_some (P := P) w.drew i.size 0 ad 0 0 [] (by simp) (by simp)
      · obtain ⟨g, o, cur, rfl, hbg, hg, hs, hcells⟩ := hown.2.2.2.1 h0
        refine run_firstCells_some (P := P) w.drew i.size n ⟨g, o, none⟩ n c xs hown.1 (fun j u hu => ?_)
        have hj := (List.getElem?_eq_some_iff.1 hu).1
        rw [hown.1] at hj
        rw [add_plain]
        show w.cell? ⟨g, o + j, none⟩ = _
        rw [cell_of_row w g (o + j) cur e (0, 0) hg, hcells j hj, hu]
    have hrun := run_append_grow_src (P := P) w t t ty e i z ht hi hz A n c xs hold _ m news hsrc (by omega) (by omega) (growslice_fits (by omega) hbytes)
    have hge := grownCap_ge w (n + m) c e
    have hcm := grownCap_le_maxLen w (n + m) c e h63
    refine ⟨_, _, _, hrun, ?_, ((Keeps.refl _ w).drew).alloc _, fun k hk => .inr (by have := (inB_some _ _ _).1 hk; omega)⟩
    refine ⟨hlen, hge, hcm, fun _ => ⟨w.heap.size, 0, _, rfl, hbase, heap_alloc_new w.drew _, ?_, fun j hj => ?_⟩, fun k hk => ?_⟩
    · simp only [Array.size_append, List.size_toArray, size_zeroCells, hzs, hlen, Nat.zero_add, ← Nat.add_mul]
      exact Nat.mul_le_mul_right _ (by omega)
    · rw [Nat.zero_add, Array.getElem?_append_left (by rw [List.size_toArray, hlen]; exact hj), List.getElem?_toArray]
    · have := (inB_some _ _ _).1 hk
      subst this
      exact ⟨hbase, _, heap_alloc_new w.drew _⟩
theorem wp_appT {o : Oper} {a : Act} {K : Act → World → Prop} {Q : Exit → Act → World → Prop} {t e : TypeId} {sz bytes : Nat} (E : ElemOf P t e sz bytes) (s x : Operand)
    (ho : o.op = .call { callee := .builtin .append, args := #[s, x], argTypes := #[t, t] })
    (base : Nat) {A : Option Addr} {n c : Nat} (xs : List Value) (hs : a.eval s = .slice A n c) (hown : OwnT w base e sz A n c xs)
    (B : Nat) {A2 : Option Addr} {m c2 : Nat} (news : List Value) (hx : a.eval x = .slice A2 m c2) (hr : Rd w B A2 sz m news) (hm : 0 < m) (h1 : ∀ u ∈ news, u.oneCell' = true)
    (h63 : n + m ≤ maxLen) (hbytes : (n + m) * bytes ≤ 140737488355328) (hbase : base ≤ w.heap.size)
    (h : ∀ A' c' w', OwnT w' base e sz A' (n + m) c' (xs ++ news) → Keeps (inB A) w w' → (∀ k, inB A' k → inB A k ∨ w.heap.size ≤ k) → K (a.put o.dst (.slice A' (n + m) c')) w') : o.wp P a w K Q := by
  obtain ⟨A', c', w', hrun, h2, h3, h4⟩ := run_appT (P := P) w E o.type base A n c xs hown B A2 m c2 news hr hm h1 h63 hbytes hbase
  unfold Oper.wp execOp
  simp only [ho, resolve, invoke, builtin, Sem.run_bind, Sem.run_pure, Result.andThen_ok, List.map_toArray, List.map_cons, List.map_nil, hs, hx, hrun]
  exact h A' c' w' h2 h3 h4
theorem wpList_appT {ops : Array Oper} {rest : List Oper} {o : Oper} {a : Act} {Q : Exit → Act → World → Prop} {t e : TypeId} {sz bytes : Nat} (E : ElemOf P t e sz bytes) (hgd : o.guard = none) (s x : Operand)
    (ho : o.op = .call { callee := .builtin .append, args := #[s, x], argTypes := #[t, t] })
    (base : Nat) {A : Option Addr} {n c : Nat} (xs : List Value) (hs : a.eval s = .slice A n c) (hown : OwnT w base e sz A n c xs)
    (B : Nat) {A2 : Option Addr} {m c2 : Nat} (news : List Value) (hx : a.eval x = .slice A2 m c2) (hr : Rd w B A2 sz m news) (hm : 0 < m) (h1 : ∀ u ∈ news, u.oneCell' = true)
    (h63 : n + m ≤ maxLen) (hbytes : (n + m) * bytes ≤ 140737488355328) (hbase : base ≤ w.heap.size)
    (h : ∀ A' c' w', OwnT w' base e sz A' (n + m) c' (xs ++ news) → Keeps (inB A) w w' → (∀ k, inB A' k → inB A k ∨ w.heap.size ≤ k) → wpList P ops Q rest (a.put o.dst (.slice A' (n + m) c')) w') : wpList P ops Q (o :: rest) a w :=
  wpList_plain hgd fun _ hK => wp_appT w E s x ho base xs hs hown B news hx hr hm h1 h63 hbytes hbase fun A' c' w' h2 h3 h4 => hK _ _ (h A' c' w' h2 h3 h4)
end
end Go.Proofs.Ytidobhflijdccaa
