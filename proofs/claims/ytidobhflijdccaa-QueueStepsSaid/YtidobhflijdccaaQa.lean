/-
  A queue of events: as a list and in memory; what a push and a pop do to the pool's and the arena's invariants. No conditions beyond those of the statement.
-/
import Derived.Test.YtidobhflijdccaaPr
import Derived.Test.YtidobhflijdccaaPu
set_option linter.unusedVariables false
set_option linter.unusedSimpArgs false
namespace Go.Proofs.Ytidobhflijdccaa
open Go.RowKit Cfp
section flat
variable {α : Type} (f : α → List Value) (m : Nat) (hf : ∀ x, (f x).length = m) (hm : 0 < m)
include hf hm
theorem flat_at : ∀ (l : List α) (q : Nat), (l.flatMap f)[q]? = (l[q / m]?).bind (fun x => (f x)[q % m]?)
  | [], q => by simp
  | x :: l, q => by
    rw [List.flatMap_cons]
    by_cases h : q < m
    · rw [List.getElem?_append_left (by rw [hf]; exact h), Nat.div_eq_of_lt h, Nat.mod_eq_of_lt h]
      simp
    · rw [List.getElem?_append_right (by rw [hf]; omega), hf, flat_at l (q - m), Nat.mod_eq_sub_mod (by omega : q ≥ m), Nat.div_eq_sub_div hm (by omega : m ≤ q)]
      simp
end flat
/-- the cells from o on are others -/
def sets : List Value → Nat → List Value → List Value
  | xs, _, [] => xs
  | xs, o, v :: vs => sets (xs.set o v) (o + 1) vs
theorem sets_get : ∀ (vs xs : List Value) (o q : Nat), (sets xs o vs)[q]? = if o ≤ q ∧ q < o + vs.length ∧ q < xs.length then vs[q - o]? else xs[q]?
  | [], xs, o, q => by simp [sets]; omega
  | v :: vs, xs, o, q => by
    rw [sets, sets_get vs (xs.set o v) (o + 1) q, List.length_set, List.length_cons]
    by_cases h1 : o + 1 ≤ q ∧ q < o + 1 + vs.length ∧ q < xs.length
    · rw [if_pos h1, if_pos (by omega), show q - o = (q - (o + 1)) + 1 by omega, List.getElem?_cons_succ]
    · rw [if_neg h1]
      by_cases h2 : o = q
      · subst h2
        by_cases h3 : o < xs.length
        · rw [if_pos (by omega)]; simp [h3]
        · rw [if_neg (by omega)]; simp [h3]
      · rw [if_neg (by omega), List.getElem?_set, if_neg h2]
theorem flat_sets {α : Type} (f : α → List Value) (m : Nat) (hf : ∀ x, (f x).length = m) (hm : 0 < m) (l : List α) (i : Nat) (x y : α) (h : l[i]? = some x) : sets (l.flatMap f) (i * m) (f y) = (l.set i y).flatMap f := by
  have hi := (List.getElem?_eq_some_iff.1 h).1
  refine List.ext_getElem? fun q => ?_
  have hd := Nat.div_add_mod q m
  have hml := Nat.mod_lt q hm
  rw [sets_get, flat_at f m hf hm, flat_at f m hf hm, List.getElem?_set, hf, flat_len f m hf]
  by_cases e : i = q / m
  · subst e
    have hc : q / m * m = m * (q / m) := Nat.mul_comm _ _
    have h2 : q / m * m ≤ q ∧ q < q / m * m + m := by omega
    have h3 : q < l.length * m := by
      have : (q / m + 1) * m ≤ l.length * m := Nat.mul_le_mul_right _ hi
      rw [Nat.add_mul] at this
      omega
    rw [if_pos ⟨h2.1, h2.2, h3⟩, if_pos rfl, if_pos hi]
    show _ = (f y)[q % m]?
    congr 1
    omega
  · rw [if_neg (show ¬ i = q / m from e), if_neg]
    rintro ⟨h1, h2, _⟩
    refine e ?_
    have h3 : i = q / m := by
      have : q / m = i := by
        rw [Nat.div_eq_of_lt_le]
        · exact h1
        · rw [Nat.add_mul]; omega
      exact this.symm
    exact h3

/-- an event that waits; the text is its key's -/
structure Wt where
  win : Int
  time : Int
  wgt : Int
  h : Hd
  key : Nat
  text : List UInt8
def Wt.zero : Wt := ⟨0, 0, 0, (0, 0, 0), 0, []⟩
def wtC (x : Wt) : List Value := [.int .i64 x.win, .int .i64 x.time, .int .u64 x.wgt, .int .i64 x.h.1, .int .i64 x.h.2.1, .int .i64 x.h.2.2, .int .i64 x.key]
def wtCs (l : List Wt) : List Value := l.flatMap wtC
theorem wtCs_len (l : List Wt) : (wtCs l).length = l.length * 7 := flat_len _ 7 (fun _ => rfl) l
theorem wtCs_app (l m : List Wt) : wtCs (l ++ m) = wtCs l ++ wtCs m := List.flatMap_append
theorem wtCs_one (l : List Wt) : ∀ u ∈ wtCs l, u.oneCell' = true := by
  intro u hu
  unfold wtCs at hu
  rw [List.mem_flatMap] at hu
  obtain ⟨c, _, hu⟩ := hu
  simp [wtC] at hu
  rcases hu with rfl | rfl | rfl | rfl | rfl | rfl | rfl <;> rfl
theorem wtCs_at {l : List Wt} {i : Nat} {x : Wt} (h : l[i]? = some x) (k : Nat) (hk : k < 7) : (wtCs l)[i * 7 + k]? = (wtC x)[k]? := flat_get _ 7 (fun _ => rfl) l i k x h hk
theorem elemWt : ElemOf Try.prog 154 158 7 56 := ElemOf.mk' (z := .agg #[.int .i64 0, .int .i64 0, .int .u64 0, .int .i64 0, .int .i64 0, .int .i64 0, .int .i64 0]) Try.underlying154 (by kernel_rfl) rfl (by omega)
/-- the queue in block q, its list in block G: W waits, R lies behind -/
structure IsQ (w : World) (B q a p G n : Nat) (W R : List Wt) : Prop where
  le : B ≤ q
  blk : Blk w q 156 #[.pointer (some ⟨a, 0, none⟩), .pointer (some ⟨p, 0, none⟩), .slice (some ⟨G, 0, none⟩) n n, .int .i64 (W.length : Int)]
  own : Own w B 158 7 (some ⟨G, 0, none⟩) n n (wtCs (W ++ R))
section
variable {w w' : World} {B q a p G n : Nat} {W R : List Wt} {S : Nat → Prop}
theorem IsQ.len (h : IsQ w B q a p G n W R) : W.length + R.length = n := by
  have := h.own.len
  rw [wtCs_len, List.length_append] at this
  omega
theorem IsQ.blkG (h : IsQ w B q a p G n W R) : ∃ cs, Blk w G 158 cs := h.own.blk ((inB_some _ _ _).2 rfl)
theorem IsQ.kept (h : IsQ w B q a p G n W R) (k : Keeps S w w') (hq : ¬ S q) (hg : ¬ S G) : IsQ w' B q a p G n W R :=
  ⟨h.le, h.blk.kept k hq, h.own.kept k (fun b hb e => by have := (inB_some _ _ _).1 hb; subst this; exact hg e)⟩
theorem IsQ.quiet (h : IsQ w B q a p G n W R) (k : Keeps (fun _ => False) w w') : IsQ w' B q a p G n W R := h.kept k (fun h => h) (fun h => h)
theorem IsQ.pos {B' : Nat} (h : IsQ w B q a p G n W R) (k : Keeps (PoS B' w) w w') : IsQ w' B q a p G n W R := by
  obtain ⟨cs, hG⟩ := h.blkG
  exact h.kept k (PoS.not h.blk (by decide) (by decide) (by decide) (by decide) (by decide)) (PoS.not hG (by decide) (by decide) (by decide) (by decide) (by decide))
theorem IsQ.ar {B' : Nat} (h : IsQ w B q a p G n W R) (k : Keeps (ArS B' w) w w') : IsQ w' B q a p G n W R := h.pos (PoS.ar k)
theorem IsQ.cells (h : IsQ w B q a p G n W R) : (w.cell? ⟨q, 0, none⟩ = some (.pointer (some ⟨a, 0, none⟩)) ∧ w.cell? ⟨q, 1, none⟩ = some (.pointer (some ⟨p, 0, none⟩)) ∧ w.cell? ⟨q, 2, none⟩ = some (.slice (some ⟨G, 0, none⟩) n n) ∧ w.cell? ⟨q, 3, none⟩ = some (.int .i64 (W.length : Int))) ∧ q < w.heap.size :=
  ⟨⟨h.blk.cell 0, h.blk.cell 1, h.blk.cell 2, h.blk.cell 3⟩, h.blk.lt⟩
/-- the cells of a waiting event -/
theorem IsQ.at (h : IsQ w B q a p G n W R) {i : Nat} {x : Wt} (hx : (W ++ R)[i]? = some x) :
    w.cell? ⟨G, i * 7, none⟩ = some (.int .i64 x.win) ∧ w.cell? ⟨G, i * 7 + 1, none⟩ = some (.int .i64 x.time) ∧ w.cell? ⟨G, i * 7 + 2, none⟩ = some (.int .u64 x.wgt) ∧ w.cell? ⟨G, i * 7 + 3, none⟩ = some (.int .i64 x.h.1) ∧
      w.cell? ⟨G, i * 7 + 4, none⟩ = some (.int .i64 x.h.2.1) ∧ w.cell? ⟨G, i * 7 + 5, none⟩ = some (.int .i64 x.h.2.2) ∧ w.cell? ⟨G, i * 7 + 6, none⟩ = some (.int .i64 x.key) := by
  have hi : i < n := by have := (List.getElem?_eq_some_iff.1 hx).1; rw [List.length_append, h.len] at this; exact this
  exact ⟨(h.own.cell (i * 7) (by omega)).trans (wtCs_at hx 0 (by omega)), (h.own.cell (i * 7 + 1) (by omega)).trans (wtCs_at hx 1 (by omega)), (h.own.cell (i * 7 + 2) (by omega)).trans (wtCs_at hx 2 (by omega)), (h.own.cell (i * 7 + 3) (by omega)).trans (wtCs_at hx 3 (by omega)),
    (h.own.cell (i * 7 + 4) (by omega)).trans (wtCs_at hx 4 (by omega)), (h.own.cell (i * 7 + 5) (by omega)).trans (wtCs_at hx 5 (by omega)), (h.own.cell (i * 7 + 6) (by omega)).trans (wtCs_at hx 6 (by omega))⟩
/-- the blocks of a queue, its pool and its arena that may be written -/
def QuS (B : Nat) (w : World) (k : Nat) : Prop := PoS B w k ∨ (B ≤ k ∧ ∃ cs t, Blk w k t cs ∧ (t = 156 ∨ t = 158))
theorem QuS.same {w0 : World} {b : Nat} (he : w.heap[b]? = w0.heap[b]?) (h : QuS B w b) : QuS B w0 b := by
  rcases h with h | ⟨h1, cs, t, h2, h3⟩
  · exact .inl (h.same he)
  · exact .inr ⟨h1, cs, t, he.symm.trans h2, h3⟩
theorem QuS.trans {w0 : World} (h : Keeps (QuS B w0) w0 w) (k : Keeps (QuS B w) w w') : Keeps (QuS B w0) w0 w' := by
  refine h.step k (fun b hb hS => ?_)
  by_cases hn : QuS B w0 b
  · exact hn
  · exact hS.same (h.block b hb hn)
theorem QuS.zero (h : Keeps (fun _ => False) w w') : Keeps (QuS B w) w w' := h.weak (fun _ _ h => h.elim)
theorem QuS.po (h : Keeps (PoS B w) w w') : Keeps (QuS B w) w w' := h.weak (fun _ _ h => .inl h)
theorem QuS.low {b : Nat} (h : b < B) : ¬ QuS B w b := by
  rintro (h1 | ⟨h1, _⟩)
  · exact PoS.low h h1
  · omega
theorem QuS.to0 {w0 : World} (k0 : Keeps (fun _ => False) w0 w) (k : Keeps (QuS B w) w w') (hB : w0.heap.size ≤ B) : Keeps (fun _ => False) w0 w' :=
  k0.step k (fun b hb h => QuS.low (by omega) h)
theorem QuS.not {t : TypeId} {b : Nat} {cs : Array Value} (h : Blk w b t cs) (h1 : t ≠ 122) (h2 : t ≠ 125) (h3 : t ≠ 130) (h4 : t ≠ 144) (h5 : t ≠ 147) (h6 : t ≠ 156) (h7 : t ≠ 158) : ¬ QuS B w b := by
  rintro (h8 | ⟨_, cs', t', h8, h9⟩)
  · exact PoS.not h h1 h2 h3 h4 h5 h8
  · have := blk_type h h8
    rcases h9 with rfl | rfl
    · exact h6 this
    · exact h7 this
theorem IsQ.inQ (h : IsQ w B q a p G n W R) : QuS B w q := .inr ⟨h.le, _, _, h.blk, .inl rfl⟩
theorem IsQ.inG (h : IsQ w B q a p G n W R) : QuS B w G := by
  obtain ⟨cs, hG⟩ := h.blkG
  exact .inr ⟨(h.own.inB ((inB_some _ _ _).2 rfl)).1, _, _, hG, .inr rfl⟩
theorem IsQ.othQ (h : IsQ w B q a p G n W R) {b : Nat} (hb : b = q ∨ b = G) : Other w B b := by
  obtain ⟨cs, hG⟩ := h.blkG
  rcases hb with rfl | rfl
  · exact .inr ⟨_, _, h.blk, by decide, by decide, by decide, by decide⟩
  · exact .inr ⟨_, _, hG, by decide, by decide, by decide, by decide⟩
theorem IsQ.othP (h : IsQ w B q a p G n W R) {b : Nat} (hb : b = q ∨ b = G) : OthP w B b := by
  obtain ⟨cs, hG⟩ := h.blkG
  rcases hb with rfl | rfl
  · exact .inr ⟨_, _, h.blk, by decide, by decide⟩
  · exact .inr ⟨_, _, hG, by decide, by decide⟩
theorem IsQ.ne (h : IsQ w B q a p G n W R) : q ≠ G := by
  obtain ⟨cs, hG⟩ := h.blkG
  rintro rfl
  exact absurd (blk_type h.blk hG) (by decide)
/-- the element behind those that wait is written, and counted -/
theorem IsQ.add (h : IsQ w B q a p G n W R) (hl : W.length < n) (y : Wt) :
    IsQ ((((((((w.setCell ⟨G, W.length * 7, none⟩ (.int .i64 y.win)).setCell ⟨G, W.length * 7 + 1, none⟩ (.int .i64 y.time)).setCell ⟨G, W.length * 7 + 2, none⟩ (.int .u64 y.wgt)).setCell ⟨G, W.length * 7 + 3, none⟩ (.int .i64 y.h.1)).setCell ⟨G, W.length * 7 + 4, none⟩ (.int .i64 y.h.2.1)).setCell ⟨G, W.length * 7 + 5, none⟩ (.int .i64 y.h.2.2)).setCell ⟨G, W.length * 7 + 6, none⟩ (.int .i64 y.key))) B q a p G n W (y :: R.tail) ∧
    Keeps (· = G) w ((((((((w.setCell ⟨G, W.length * 7, none⟩ (.int .i64 y.win)).setCell ⟨G, W.length * 7 + 1, none⟩ (.int .i64 y.time)).setCell ⟨G, W.length * 7 + 2, none⟩ (.int .u64 y.wgt)).setCell ⟨G, W.length * 7 + 3, none⟩ (.int .i64 y.h.1)).setCell ⟨G, W.length * 7 + 4, none⟩ (.int .i64 y.h.2.1)).setCell ⟨G, W.length * 7 + 5, none⟩ (.int .i64 y.h.2.2)).setCell ⟨G, W.length * 7 + 6, none⟩ (.int .i64 y.key))) := by
  have kS := ((((((keepsOne w G (W.length * 7) (.int .i64 y.win)).setCell (p := ⟨G, W.length * 7 + 1, none⟩) (.inl rfl) (.int .i64 y.time)).setCell (p := ⟨G, W.length * 7 + 2, none⟩) (.inl rfl) (.int .u64 y.wgt)).setCell (p := ⟨G, W.length * 7 + 3, none⟩) (.inl rfl) (.int .i64 y.h.1)).setCell (p := ⟨G, W.length * 7 + 4, none⟩) (.inl rfl) (.int .i64 y.h.2.1)).setCell (p := ⟨G, W.length * 7 + 5, none⟩) (.inl rfl) (.int .i64 y.h.2.2)).setCell (p := ⟨G, W.length * 7 + 6, none⟩) (.inl rfl) (.int .i64 y.key)
  refine ⟨⟨h.le, h.blk.kept kS h.ne, ?_⟩, kS⟩
  have hR : R.length ≠ 0 := by have := h.len; omega
  rcases R with _ | ⟨z, R⟩
  · simp at hR
  have hat : (W ++ z :: R)[W.length]? = some z := by rw [List.getElem?_append_right (Nat.le_refl _)]; simp
  have hset : (W ++ z :: R).set W.length y = W ++ y :: R := by rw [List.set_append_right _ _ (Nat.le_refl _)]; simp
  have o := ((((((h.own.store (W.length * 7) (.int .i64 y.win)).store (W.length * 7 + 1) (.int .i64 y.time)).store (W.length * 7 + 2) (.int .u64 y.wgt)).store (W.length * 7 + 3) (.int .i64 y.h.1)).store (W.length * 7 + 4) (.int .i64 y.h.2.1)).store (W.length * 7 + 5) (.int .i64 y.h.2.2)).store (W.length * 7 + 6) (.int .i64 y.key)
  have e := flat_sets wtC 7 (fun _ => rfl) (by omega) (W ++ z :: R) W.length z y hat
  rw [hset] at e
  have e2 : (((((((wtCs (W ++ z :: R)).set (W.length * 7) (.int .i64 y.win)).set (W.length * 7 + 1) (.int .i64 y.time)).set (W.length * 7 + 2) (.int .u64 y.wgt)).set (W.length * 7 + 3) (.int .i64 y.h.1)).set (W.length * 7 + 4) (.int .i64 y.h.2.1)).set (W.length * 7 + 5) (.int .i64 y.h.2.2)).set (W.length * 7 + 6) (.int .i64 y.key) = wtCs (W ++ y :: R) := e
  rw [e2] at o
  exact o
theorem IsQ.count (h : IsQ w B q a p G n W R) {W' R' : List Wt} (he : W' ++ R' = W ++ R) (m : Int) (hm : m = W'.length) : IsQ (w.setCell ⟨q, 3, none⟩ (.int .i64 m)) B q a p G n W' R' ∧ Keeps (· = q) w (w.setCell ⟨q, 3, none⟩ (.int .i64 m)) := by
  subst hm
  have kS := keepsOne w q 3 (.int .i64 (W'.length : Int))
  refine ⟨⟨h.le, h.blk.set 3 _, ?_⟩, kS⟩
  rw [he]
  exact h.own.kept kS (fun b hb e => by have := (inB_some _ _ _).1 hb; subst this; exact h.ne e.symm)
end

/-- the invariant of a queue, its pool and its arena; sh are the classes -/
structure QInv (sh : List (Int × Int)) (W : List Wt) (E : List PE) (s : Ar) (L : Nat → List Nat) (D : KD) (M M2 : Int) : Prop where
  iv : Inv s L M2
  pv : PInv E s D M
  hsh : shapeA s = sh
  hs : ∀ x ∈ W, LV s x.h.1 x.h.2.1 x.h.2.2 []
  nd : (W.map (fun x => (x.h.1, x.h.2.1))).Nodup
  us : ∀ j, usAt E j = ((W.map (fun x => x.key)).count j : Int)
  tx : ∀ x ∈ W, ∃ e, E[x.key]? = some e ∧ e.key = x.text
  fq : ∀ x ∈ W, x.h.1 = fitS sh 24
  fe : ∀ (j : Nat) (e : PE), E[j]? = some e → 0 < e.users → e.h.1 = fitS sh e.key.length
  lv : ∀ i, i < sh.length → (livesA s).getD i 0 = (if i = fitS sh 24 then (W.length : Int) else 0) + (cntF sh i E : Int)
  su : sumU E = W.length
  fa : s.faults = 0
section
variable {sh : List (Int × Int)} {W : List Wt} {E : List PE} {s s1 s2 s3 : Ar} {L L1 L2 : Nat → List Nat} {D D' : KD} {M M' M2 M2' : Int}
theorem QInv.lenL (h : QInv sh W E s L D M M2) : (livesA s).length = sh.length := by rw [← h.hsh]; simp [livesA, shapeA]
/-- the pool's slots are others than the queue's -/
theorem QInv.apart (h : QInv sh W E s L D M M2) {x : Wt} (hx : x ∈ W) {j : Nat} {e : PE} (he : E[j]? = some e) (hu : 0 < e.users) : ¬ (e.h.1 = x.h.1 ∧ e.h.2.1 = x.h.2.1) := by
  rintro ⟨h1, h2⟩
  have a := (h.pv.lv j e he hu)
  have b := h.hs x hx
  rw [← h1, ← h2] at b
  have := (a.1.one b).2
  rw [this] at a
  simp at a
theorem QInv.users (h : QInv sh W E s L D M M2) {x : Wt} (hx : x ∈ W) : ∃ e, E[x.key]? = some e ∧ e.key = x.text ∧ 0 < e.users ∧ 1 ≤ e.key.length ∧ e.key.length ≤ 255 := by
  obtain ⟨e, he, hk⟩ := h.tx x hx
  have h1 := h.us x.key
  rw [usAt_get he] at h1
  have h2 : 0 < (W.map (fun x => x.key)).count x.key := List.count_pos_iff.2 (List.mem_map.2 ⟨x, hx, rfl⟩)
  have hu : 0 < e.users := by omega
  exact ⟨e, he, hk, hu, (h.pv.lv _ e he hu).2⟩
theorem QInv.fit (h : QInv sh W E s L D M M2) (size : Int) : fitK s.cls size = fitS sh size := by rw [fitS_K, h.hsh]
theorem QInv.cnt (h : QInv sh W E s L D M M2) : (cntU E : Int) ≤ W.length := by
  rw [← h.su]
  refine cntU_sum E (fun e he => ?_)
  obtain ⟨j, hj⟩ := List.getElem?_of_mem he
  exact (h.pv.us j e hj).1
/-- a slot for an event, and nothing else -/
theorem QInv.slot (h : QInv sh W E s L D M M2) {i k : Nat} {age : Int} (g : Got s s1 i k age 24) : PInv E s1 D M := h.pv.arena fun j e he hu => (g.lvs _ _ _ _).2 (.inr (h.pv.lv j e he hu).1)
theorem got_hi {s s1 : Ar} {i k : Nat} {age size : Int} (g : Got s s1 i k age size) : i < (livesA s).length := by
  obtain ⟨c, hc, _⟩ := g.fit
  have := (List.getElem?_eq_some_iff.1 hc).1
  simpa [livesA] using this
theorem gone_lives {s s1 : Ar} {i k : Nat} (g : Gone s s1 i k) (j : Nat) : (livesA s1).getD j 0 = (livesA s).getD j 0 + if j = i then -1 else 0 :=
  lives_up (by rw [g.lives, Int.sub_eq_add_neg]) (by have := g.hi.1; simpa [livesA] using this) j
theorem got_lives {s s1 : Ar} {i k : Nat} {age size : Int} (g : Got s s1 i k age size) (j : Nat) : (livesA s1).getD j 0 = (livesA s).getD j 0 + if j = i then 1 else 0 := lives_up g.lives (got_hi g) j
/-- the slot is given back -/
theorem QInv.undo (h : QInv sh W E s L D M M2) {i k : Nat} {age : Int} (g : Got s s1 i k age 24) (u : Gone s1 s2 i k) (v : Inv s2 L2 M2') : QInv sh W E s2 L2 D M M2' ∧ livesA s2 = livesA s := by
  have hl : ∀ j q a d, LV s2 j q a d ↔ LV s j q a d := fun j q a d => by
    rw [u.lvs, g.lvs]
    constructor
    · rintro ⟨h1 | h1, h2⟩
      · exact absurd ⟨h1.1, h1.2.1⟩ h2
      · exact h1
    · intro h1
      refine ⟨.inr h1, ?_⟩
      rintro ⟨rfl, rfl⟩
      exact g.old _ _ h1
  have hlv : livesA s2 = livesA s := by
    rw [u.lives, g.lives]
    have hi := got_hi g
    simp [List.getD, hi]
  exact ⟨⟨v, h.pv.arena fun j e he hu => (hl _ _ _ _).2 (h.pv.lv j e he hu).1, by rw [u.shape, g.shape, h.hsh], fun x hx => (hl _ _ _ _).2 (h.hs x hx), h.nd, h.us, h.tx, h.fq, h.fe, by rw [hlv]; exact h.lv, h.su, by rw [u.faults, g.faults, h.fa]⟩, hlv⟩
theorem nodup_snoc {W : List Wt} {y : Wt} (hn : (W.map (fun x => (x.h.1, x.h.2.1))).Nodup) (hy : ∀ x ∈ W, ¬ (x.h.1 = y.h.1 ∧ x.h.2.1 = y.h.2.1)) : ((W ++ [y]).map (fun x => (x.h.1, x.h.2.1))).Nodup := by
  rw [List.map_append, List.nodup_append]
  refine ⟨hn, by simp, fun a ha b hb => ?_⟩
  obtain ⟨x, hx, rfl⟩ := List.mem_map.1 ha
  simp at hb
  subst hb
  intro e
  injection e with e1 e2
  exact hy x hx ⟨e1, e2⟩
theorem count_snoc (W : List Wt) (y : Wt) (j : Nat) : ((W ++ [y]).map (fun x => x.key)).count j = (W.map (fun x => x.key)).count j + if j = y.key then 1 else 0 := by
  rw [List.map_append, List.count_append, List.map_cons, List.map_nil, List.count_singleton]
  by_cases e : j = y.key
  · subst e; simp
  · simp [e, show ¬ y.key = j from fun q => e q.symm]
/-- an event with a key that is there -/
theorem QInv.old (h : QInv sh W E s L D M M2) {i k : Nat} {age : Int} (g : Got s s1 i k age 24) (hfit : fitK s.cls 24 = i) (v : Inv s1 L1 M2') {id : Nat} {x : PE} (hx : E[id]? = some x) (hu : 0 < x.users) (pv : PInv (E.set id { x with users := x.users + 1 }) s1 D M') (win time wgt : Int) :
    QInv sh (W ++ [⟨win, time, wgt, (i, k, age), id, x.key⟩]) (E.set id { x with users := x.users + 1 }) s1 L1 D M' M2' := by
  have hil := (List.getElem?_eq_some_iff.1 hx).1
  refine ⟨v, pv, by rw [g.shape, h.hsh], fun y hy => ?_, nodup_snoc h.nd (fun y hy e => ?_), fun j => ?_, fun y hy => ?_, fun y hy => ?_, fun j e he hue => ?_, fun j hj => ?_, ?_, by rw [g.faults, h.fa]⟩
  · rcases List.mem_append.1 hy with hy | hy
    · exact (g.lvs _ _ _ _).2 (.inr (h.hs y hy))
    · rw [List.mem_singleton.1 hy]
      exact (g.lvs _ _ _ _).2 (.inl ⟨rfl, rfl, rfl, rfl⟩)
  · have := h.hs y hy
    rw [e.1, e.2] at this
    exact g.old _ _ this
  · rw [usAt_set hx, count_snoc]
    have h1 := h.us j
    dsimp only
    split
    · next e =>
      subst e
      rw [usAt_get hx] at h1
      push_cast
      omega
    · push_cast
      omega
  · rcases List.mem_append.1 hy with hy | hy
    · obtain ⟨e, he, hk⟩ := h.tx y hy
      rw [List.getElem?_set]
      split
      · next e1 =>
        rw [← e1, hx] at he
        injection he with he
        subst he
        exact ⟨{ x with users := x.users + 1 }, by simp [hil], hk⟩
      · exact ⟨e, he, hk⟩
    · rw [List.mem_singleton.1 hy]
      exact ⟨{ x with users := x.users + 1 }, by simp [hil], rfl⟩
  · rcases List.mem_append.1 hy with hy | hy
    · exact h.fq y hy
    · rw [List.mem_singleton.1 hy, ← h.fit]
      exact hfit.symm
  · rcases get_set he with ⟨rfl, rfl, _⟩ | ⟨_, h3⟩
    · have := h.fe _ _ hx hu
      exact this
    · exact h.fe _ _ h3 hue
  · rw [got_lives g, h.lv j hj]
    have h1 := cntF_set sh j E id x { x with users := x.users + 1 } hx
    have h2 : (0 < x.users ∧ fitS sh x.key.length = j) ↔ (0 < x.users + 1 ∧ fitS sh x.key.length = j) := ⟨fun q => ⟨by omega, q.2⟩, fun q => ⟨hu, q.2⟩⟩
    simp only [h2] at h1
    have h3 : i = fitS sh 24 := by rw [← h.fit]; exact hfit.symm
    rw [h3, List.length_append, List.length_singleton]
    split <;> (push_cast; omega)
  · rw [sumU_set _ _ _ _ hx, h.su, List.length_append, List.length_singleton]
    push_cast
    omega
/-- an event with a new key -/
theorem QInv.new (h : QInv sh W E s L D M M2) {i k i' k' : Nat} {age age' : Int} {key : List UInt8} (g : Got s s1 i k age 24) (hfit : fitK s.cls 24 = i) (v : Inv s3 L2 M2') {id : Nat} {x : PE} {E1 : List PE} (hE1 : E1 = E ∨ E1 = E ++ [PE.zero]) (hx : E1[id]? = some x) (hu : x.users = 0)
    (g' : Got s1 s2 i' k' age' key.length) (wr : Wrote s2 s3 i' k' age' key) (hfit' : fitK s1.cls key.length = i') (pv : PInv (E1.set id ⟨(i', k', age'), key, 1⟩) s3 D' M') (win time wgt : Int) :
    QInv sh (W ++ [⟨win, time, wgt, (i, k, age), id, key⟩]) (E1.set id ⟨(i', k', age'), key, 1⟩) s3 L2 D' M' M2' := by
  have hil := (List.getElem?_eq_some_iff.1 hx).1
  have hs1 : shapeA s1 = sh := by rw [g.shape, h.hsh]
  have hlive : ∀ j q a d, LV s1 j q a d → LV s3 j q a d := fun j q a d hl => (wr.lvs _ _ _ _).2 (.inr ⟨(g'.lvs _ _ _ _).2 (.inr hl), fun e => by rw [e.1, e.2] at hl; exact g'.old _ _ hl⟩)
  have hget : ∀ (j : Nat) (e : PE), E[j]? = some e → E1[j]? = some e := fun j e he => by
    rcases hE1 with rfl | rfl
    · exact he
    · rw [List.getElem?_append_left (List.getElem?_eq_some_iff.1 he).1]; exact he
  have hgetb : ∀ (j : Nat) (e : PE), E1[j]? = some e → 0 < e.users → E[j]? = some e := fun j e he hue => by
    rcases hE1 with rfl | rfl
    · exact he
    · rw [List.getElem?_append] at he
      split at he
      · exact he
      · have := List.mem_of_getElem? he
        simp at this
        subst this
        simp [PE.zero] at hue
  have hus : ∀ j, usAt E1 j = usAt E j := fun j => by
    rcases hE1 with rfl | rfl
    · rfl
    · exact usAt_app E j
  refine ⟨v, pv, by rw [wr.shape, g'.shape, hs1], fun y hy => ?_, nodup_snoc h.nd (fun y hy e => ?_), fun j => ?_, fun y hy => ?_, fun y hy => ?_, fun j e he hue => ?_, fun j hj => ?_, ?_, by rw [wr.faults, g'.faults, g.faults, h.fa]⟩
  · rcases List.mem_append.1 hy with hy | hy
    · exact hlive _ _ _ _ ((g.lvs _ _ _ _).2 (.inr (h.hs y hy)))
    · rw [List.mem_singleton.1 hy]
      exact hlive _ _ _ _ ((g.lvs _ _ _ _).2 (.inl ⟨rfl, rfl, rfl, rfl⟩))
  · have := h.hs y hy
    rw [e.1, e.2] at this
    exact g.old _ _ this
  · rw [usAt_set hx, count_snoc, hus]
    have h1 := h.us j
    dsimp only
    split
    · next e =>
      subst e
      rw [← hus, usAt_get hx, hu] at h1
      push_cast
      omega
    · push_cast
      omega
  · rcases List.mem_append.1 hy with hy | hy
    · obtain ⟨e, he, hk, heu, _⟩ := h.users hy
      rw [List.getElem?_set]
      split
      · next e1 =>
        have := hget _ _ he
        rw [← e1, hx] at this
        injection this with this
        subst this
        omega
      · exact ⟨e, hget _ _ he, hk⟩
    · rw [List.mem_singleton.1 hy]
      exact ⟨⟨(i', k', age'), key, 1⟩, by simp [hil], rfl⟩
  · rcases List.mem_append.1 hy with hy | hy
    · exact h.fq y hy
    · rw [List.mem_singleton.1 hy, ← h.fit]
      exact hfit.symm
  · rcases get_set he with ⟨rfl, rfl, _⟩ | ⟨_, h3⟩
    · show i' = fitS sh key.length
      rw [← hfit', fitS_K, hs1]
    · exact h.fe _ _ (hgetb _ _ h3 hue) hue
  · rw [wr.lives, got_lives g', got_lives g, h.lv j hj]
    have h1 := cntF_set sh j E1 id x ⟨(i', k', age'), key, 1⟩ hx
    have h0 : cntF sh j E1 = cntF sh j E := by
      rcases hE1 with rfl | rfl
      · rfl
      · exact cntF_app sh j E
    rw [if_neg (show ¬ (0 < x.users ∧ fitS sh x.key.length = j) from fun q => by omega), h0] at h1
    have h4 : i' = fitS sh key.length := by rw [← hfit', fitS_K, hs1]
    have h3 : i = fitS sh 24 := by rw [← h.fit]; exact hfit.symm
    rw [h3, h4, List.length_append, List.length_singleton]
    dsimp only at h1
    have h5 : (if (0 : Int) < 1 ∧ fitS sh key.length = j then 1 else 0 : Nat) = if j = fitS sh key.length then 1 else 0 := by
      by_cases e : j = fitS sh key.length
      · rw [if_pos e, if_pos ⟨by omega, e.symm⟩]
      · rw [if_neg e, if_neg (fun q => e q.2.symm)]
    rw [h5] at h1
    split <;> split <;> simp_all <;> omega
  · rw [sumU_set _ _ _ _ hx, List.length_append, List.length_singleton]
    have h0 : sumU E1 = sumU E := by
      rcases hE1 with rfl | rfl
      · rfl
      · exact sumU_app E
    rw [h0, h.su, hu]
    push_cast
    omega
/-- the first event is taken out -/
theorem QInv.gone {x : Wt} (h : QInv sh (x :: W) E s L D M M2) (u : Gone s s1 x.h.1 x.h.2.1) : PInv E s1 D M :=
  h.pv.arena fun j e he hu => (u.lvs _ _ _ _).2 ⟨(h.pv.lv j e he hu).1, h.apart (List.mem_cons_self ..) he hu⟩
theorem QInv.rest {x : Wt} (h : QInv sh (x :: W) E s L D M M2) (u : Gone s s1 x.h.1 x.h.2.1) : (∀ y ∈ W, LV s1 y.h.1 y.h.2.1 y.h.2.2 []) ∧ (W.map (fun x => (x.h.1, x.h.2.1))).Nodup := by
  have hn := h.nd
  rw [List.map_cons, List.nodup_cons] at hn
  refine ⟨fun y hy => (u.lvs _ _ _ _).2 ⟨h.hs y (List.mem_cons_of_mem _ hy), fun e => hn.1 ?_⟩, hn.2⟩
  rw [← e.1, ← e.2]
  exact List.mem_map.2 ⟨y, hy, rfl⟩
theorem count_tail (W : List Wt) (y : Wt) (j : Nat) : ((y :: W).map (fun x => x.key)).count j = (W.map (fun x => x.key)).count j + if j = y.key then 1 else 0 := by
  rw [List.map_cons, List.count_cons]
  by_cases e : j = y.key
  · subst e; simp
  · simp [e, show ¬ y.key = j from fun q => e q.symm]
theorem QInv.more {x : Wt} (h : QInv sh (x :: W) E s L D M M2) (u : Gone s s1 x.h.1 x.h.2.1) (v : Inv s1 L1 M2') {e : PE} (he : E[x.key]? = some e) (hu : 1 < e.users) (pv : PInv (E.set x.key { e with users := e.users - 1 }) s1 D M') :
    QInv sh W (E.set x.key { e with users := e.users - 1 }) s1 L1 D M' M2' := by
  have hil := (List.getElem?_eq_some_iff.1 he).1
  obtain ⟨r1, r2⟩ := h.rest u
  refine ⟨v, pv, by rw [u.shape, h.hsh], r1, r2, fun j => ?_, fun y hy => ?_, fun y hy => h.fq y (List.mem_cons_of_mem _ hy), fun j e2 he2 hue => ?_, fun j hj => ?_, ?_, by rw [u.faults, h.fa]⟩
  · rw [usAt_set he]
    have h1 := h.us j
    rw [count_tail] at h1
    dsimp only
    split
    · next e1 =>
      subst e1
      rw [usAt_get he] at h1
      simp at h1
      omega
    · next e1 =>
      rw [if_neg e1] at h1
      simpa using h1
  · obtain ⟨e2, he2, hk⟩ := h.tx y (List.mem_cons_of_mem _ hy)
    rw [List.getElem?_set]
    split
    · next e1 =>
      rw [← e1, he] at he2
      injection he2 with he2
      subst he2
      exact ⟨{ e with users := e.users - 1 }, by simp [hil], hk⟩
    · exact ⟨e2, he2, hk⟩
  · rcases get_set he2 with ⟨rfl, rfl, _⟩ | ⟨_, h3⟩
    · have := h.fe _ _ he (by omega)
      exact this
    · exact h.fe _ _ h3 hue
  · rw [gone_lives u, h.lv j hj]
    have h1 := cntF_set sh j E x.key e { e with users := e.users - 1 } he
    have h2 : (0 < e.users ∧ fitS sh e.key.length = j) ↔ (0 < e.users - 1 ∧ fitS sh e.key.length = j) := ⟨fun q => ⟨by omega, q.2⟩, fun q => ⟨by omega, q.2⟩⟩
    simp only [h2] at h1
    rw [h.fq x (List.mem_cons_self ..), List.length_cons]
    split <;> (push_cast; omega)
  · rw [sumU_set _ _ _ _ he, h.su, List.length_cons]
    push_cast
    omega
theorem QInv.last {x : Wt} (h : QInv sh (x :: W) E s L D M M2) (u : Gone s s1 x.h.1 x.h.2.1) {e : PE} (he : E[x.key]? = some e) (hu : e.users = 1) (u2 : Gone s1 s2 e.h.1 e.h.2.1) (v : Inv s2 L2 M2') (pv : PInv (E.set x.key { e with users := 0 }) s2 D' M') :
    QInv sh W (E.set x.key { e with users := 0 }) s2 L2 D' M' M2' := by
  have hil := (List.getElem?_eq_some_iff.1 he).1
  obtain ⟨r1, r2⟩ := h.rest u
  have hk0 : ∀ y ∈ W, y.key ≠ x.key := fun y hy e1 => by
    have h1 := h.us x.key
    rw [usAt_get he, hu, count_tail, if_pos rfl] at h1
    have h2 : 0 < (W.map (fun x => x.key)).count x.key := List.count_pos_iff.2 (List.mem_map.2 ⟨y, hy, e1⟩)
    omega
  refine ⟨v, pv, by rw [u2.shape, u.shape, h.hsh], fun y hy => (u2.lvs _ _ _ _).2 ⟨r1 y hy, fun q => h.apart (List.mem_cons_of_mem _ hy) he (by omega) ⟨q.1.symm, q.2.symm⟩⟩, r2, fun j => ?_, fun y hy => ?_, fun y hy => h.fq y (List.mem_cons_of_mem _ hy), fun j e2 he2 hue => ?_, fun j hj => ?_, ?_, by rw [u2.faults, u.faults, h.fa]⟩
  · rw [usAt_set he]
    have h1 := h.us j
    rw [count_tail] at h1
    dsimp only
    split
    · next e1 =>
      subst e1
      rw [usAt_get he, hu] at h1
      simp at h1
      omega
    · next e1 =>
      rw [if_neg e1] at h1
      simpa using h1
  · obtain ⟨e2, he2, hk⟩ := h.tx y (List.mem_cons_of_mem _ hy)
    rw [List.getElem?_set, if_neg (fun q => hk0 y hy q.symm)]
    exact ⟨e2, he2, hk⟩
  · rcases get_set he2 with ⟨rfl, rfl, _⟩ | ⟨_, h3⟩
    · exact absurd hue (by simp)
    · exact h.fe _ _ h3 hue
  · rw [gone_lives u2, gone_lives u, h.lv j hj]
    have h1 := cntF_set sh j E x.key e { e with users := 0 } he
    rw [if_neg (show ¬ ((0 : Int) < (0 : Int) ∧ fitS sh e.key.length = j) from fun q => by omega)] at h1
    have h4 := h.fe _ _ he (by omega)
    rw [h.fq x (List.mem_cons_self ..), h4, List.length_cons]
    have h5 : (if 0 < e.users ∧ fitS sh e.key.length = j then 1 else 0 : Nat) = if j = fitS sh e.key.length then 1 else 0 := by
      by_cases e1 : j = fitS sh e.key.length
      · rw [if_pos e1, if_pos ⟨by omega, e1.symm⟩]
      · rw [if_neg e1, if_neg (fun q => e1 q.2.symm)]
    rw [h5] at h1
    split <;> split <;> simp_all <;> omega
  · rw [sumU_set _ _ _ _ he, h.su, List.length_cons, hu]
    push_cast
    omega
theorem QInv.zero {s : Ar} {L : Nat → List Nat} {M2 : Int} (sh : List (Int × Int)) (v : Inv s L M2) (hs : shapeA s = sh) (hl : ∀ i, (livesA s).getD i 0 = 0) (hf : s.faults = 0) : QInv sh [] [PE.zero] s L (.map []) 0 M2 := by
  refine ⟨v, PInv.new s, hs, by simp, by simp, fun j => ?_, by simp, by simp, fun j e he hu => ?_, fun i hi => ?_, rfl, hf⟩
  · rcases j with _ | j <;> rfl
  · have := List.mem_of_getElem? he
    simp at this
    subst this
    simp [PE.zero] at hu
  · rw [hl]
    simp [cntF, PE.zero]
end
end Go.Proofs.Ytidobhflijdccaa
