/-
  Slices that the call itself has made ('Own'), and append onto them from whatever source, nil and empty ones too.
-/
import Derived.Test.YtaiopdipldaimaaBase
import Derived.Maps.AppendAt
import Derived.RegionTactic
import Derived.OwnWalk
set_option linter.unusedVariables false
set_option linter.unusedSimpArgs false
namespace Go.Proofs.Ytaiopdipldaimaa
open Go.RowKit Go.ChangeShapes Go.WideShapes

/-- a byte as a value -/
abbrev by8 (c : UInt8) : Value := .int .u8 (c.toNat : Int)
theorem by8_one (l : List UInt8) : ∀ u ∈ l.map by8, u.oneCell' = true := by intro u hu; simp at hu; obtain ⟨c, _, rfl⟩ := hu; rfl

theorem Blk.new_at (w : World) (t : TypeId) (cs : Array Value) (g : Nat) (h : g = w.heap.size) : Blk (w.alloc (.cells cs t)) g t cs := by rw [h]; exact Blk.new w t cs

/-- the facts that a walk wants of a block of three cells -/
theorem Blk.three {w : World} {g : Nat} {t : TypeId} {x y z : Value} (h : Blk w g t #[x, y, z]) :
    (w.cell? ⟨g, 0, none⟩ = some x ∧ w.cell? ⟨g, 1, none⟩ = some y ∧ w.cell? ⟨g, 2, none⟩ = some z) ∧ (w.frozen? ⟨g, 0, none⟩ = false ∧ w.frozen? ⟨g, 1, none⟩ = false ∧ w.frozen? ⟨g, 2, none⟩ = false) ∧ g < w.heap.size :=
  ⟨⟨h.cell 0, h.cell 1, h.cell 2⟩, ⟨h.frozen 0, h.frozen 1, h.frozen 2⟩, h.lt⟩
theorem Blk.two {w : World} {g : Nat} {t : TypeId} {x y : Value} (h : Blk w g t #[x, y]) :
    (w.cell? ⟨g, 0, none⟩ = some x ∧ w.cell? ⟨g, 1, none⟩ = some y) ∧ (w.frozen? ⟨g, 0, none⟩ = false ∧ w.frozen? ⟨g, 1, none⟩ = false) ∧ g < w.heap.size :=
  ⟨⟨h.cell 0, h.cell 1⟩, ⟨h.frozen 0, h.frozen 1⟩, h.lt⟩

/-- type e, in cells and bytes, as the element of the slice type t -/
structure ElemOf (P : Program) (t e : TypeId) (sz bytes : Nat) : Prop where
  under : P.underlying t = some (.slice e)
  info : ∃ i z, P.info? e = some i ∧ i.zero = some z ∧ i.size = sz ∧ i.bytes = bytes ∧ z.cells.size = sz
  pos : 0 < sz
theorem ElemOf.mk' {P : Program} {t e : TypeId} {sz bytes : Nat} {z : Value} (ht : P.underlying t = some (.slice e)) (hi : (P.info? e).map (fun i => (i.zero, i.size, i.bytes)) = some (some z, sz, bytes))
    (hz : z.cells.size = sz) (hp : 0 < sz) : ElemOf P t e sz bytes := by
  obtain ⟨i, h1, h2, h3, h4⟩ := info_parts hi
  exact ⟨ht, ⟨i, z, h1, h2, h3, h4, hz⟩, hp⟩

/-- block k is that of the slice's address -/
def inB (A : Option Addr) (k : Nat) : Prop := ∃ ad, A = some ad ∧ ad.block = k
theorem inB_none (k : Nat) : ¬ inB none k := fun ⟨_, h, _⟩ => by cases h
theorem inB_some (b off k : Nat) : inB (some ⟨b, off, none⟩) k ↔ b = k := ⟨fun ⟨_, h, e⟩ => by cases h; exact e, fun h => ⟨_, rfl, h⟩⟩

/-- The slice with address A, length n and capacity c owns the cells xs: it is nil, or begins at the head of a block from base on. -/
def Own (w : World) (base : Nat) (e : TypeId) (sz : Nat) (A : Option Addr) (n c : Nat) (xs : List Value) : Prop := w.ownsRow base e sz (.slice A n c) n xs
section
variable {w w' : World} {S : Nat → Prop} {base n c sz : Nat} {e : TypeId} {A : Option Addr} {xs : List Value}
theorem Own.nil (w : World) (base : Nat) (e : TypeId) (sz : Nat) : Own w base e sz none 0 0 [] := World.ownsRow_nil _ _ _ _
theorem Own.len (h : Own w base e sz A n c xs) : xs.length = n * sz := h.1
theorem Own.form (h : Own w base e sz A n c xs) : (A = none ∧ n = 0 ∧ c = 0) ∨ ∃ g, A = some ⟨g, 0, none⟩ ∧ base ≤ g ∧ g < w.heap.size ∧ n ≤ c ∧ c ≤ maxLen := by
  rcases h.2 with ⟨hv, h0⟩ | ⟨g, cap, cur, hv, hb, hg, hn, hc, _⟩
  · injection hv with h1 h2 h3
    exact .inl ⟨h1, h2, h3⟩
  · injection hv with h1 h2 h3
    subst h3
    exact .inr ⟨g, h1, hb, lt_of_block hg, hn, hc⟩
theorem Own.le (h : Own w base e sz A n c xs) : n ≤ c := by
  rcases h.form with ⟨_, h1, h2⟩ | ⟨g, _, _, _, h1, _⟩ <;> omega
theorem Own.inB (h : Own w base e sz A n c xs) {k : Nat} (hk : inB A k) : base ≤ k ∧ k < w.heap.size := by
  obtain ⟨ad, rfl, rfl⟩ := hk
  rcases h.form with ⟨h1, _⟩ | ⟨g, h1, h2, h3, _⟩
  · cases h1
  · injection h1 with h1
    subst h1
    exact ⟨h2, h3⟩
theorem Own.kept (h : Own w base e sz A n c xs) (k : Keeps S w w') (hs : ∀ b, Go.Proofs.Ytaiopdipldaimaa.inB A b → ¬ S b) : Own w' base e sz A n c xs :=
  ownsRow_keeps h k (fun g hg => hs g (by
    cases A with
    | none => simp [Value.ownBlock] at hg
    | some ad => exact ⟨ad, rfl, by simpa [Value.ownBlock] using hg⟩))
theorem Own.drewN (h : Own w base e sz A n c xs) (k : Nat) : Own (w.drewN k) base e sz A n c xs := h
theorem Own.base_le {b : Nat} (h : Own w base e sz A n c xs) (hb : b ≤ base) : Own w b e sz A n c xs := by
  refine ⟨h.1, ?_⟩
  rcases h.2 with h2 | ⟨g, cap, cur, hv, hg, r⟩
  · exact .inl h2
  · exact .inr ⟨g, cap, cur, hv, by omega, r⟩
theorem Own.rd (h : Own w base e sz A n c xs) (hp : 0 < sz) : Rd w w.heap.size A sz n xs := by
  refine ⟨h.1, fun hn => ?_⟩
  rcases h.2 with ⟨hv, h0⟩ | ⟨g, cap, cur, hv, hb, hg, hn', hc, hsz, ht⟩
  · omega
  · injection hv with h1 h2 h3
    subst h3
    refine ⟨g, 0, h1, lt_of_block hg, fun j u hu => ?_⟩
    rw [Nat.zero_add, cell_of_row w g j cur e (0, 0) hg]
    rw [← ht, List.getElem?_take] at hu
    split at hu
    · simpa using hu
    · cases hu
theorem Own.cell {g : Nat} (h : Own w base e sz (some ⟨g, 0, none⟩) n c xs) (j : Nat) (hj : j < n * sz) : w.cell? ⟨g, j, none⟩ = xs[j]? := World.ownsRow.cellAt h j hj
theorem Own.frozen {g : Nat} (h : Own w base e sz (some ⟨g, 0, none⟩) n c xs) (j : Nat) : w.frozen? ⟨g, j, none⟩ = false := World.ownsRow.frozenAt h j
theorem Own.store {g : Nat} (h : Own w base e sz (some ⟨g, 0, none⟩) n c xs) (j : Nat) (u : Value) : Own (w.setCell ⟨g, j, none⟩ u) base e sz (some ⟨g, 0, none⟩) n c (xs.set j u) := (World.ownsRow.stored h j u).1
theorem Own.new0 (w : World) (base : Nat) (e : TypeId) (sz g : Nat) (hg : g = w.heap.size) (hb : base ≤ g) : Own (w.alloc (.cells #[] e)) base e sz (some ⟨g, 0, none⟩) 0 0 [] := by
  subst hg
  exact World.ownsRow_lit w #[] 0 hb (by simp [maxLen]) (by simp)
theorem Own.new_at (w : World) (base : Nat) (e : TypeId) (cs : Array Value) (n sz g : Nat) (hg : g = w.heap.size) (hb : base ≤ g) (hm : n ≤ maxLen) (hs : cs.size = n * sz) :
    Own (w.alloc (.cells cs e)) base e sz (some ⟨g, 0, none⟩) n n cs.toList := by
  subst hg
  exact World.ownsRow_lit w cs n hb hm hs
/-- an owned slice that is not empty: its block -/
theorem Own.some_ (h : Own w base e sz A n c xs) (hn : 0 < n) : ∃ g, A = some ⟨g, 0, none⟩ ∧ base ≤ g ∧ g < w.heap.size := by
  rcases h.form with ⟨_, h0, _⟩ | ⟨g, h1, h2, h3, _⟩
  · omega
  · exact ⟨g, h1, h2, h3⟩
theorem Own.new (w : World) (base : Nat) (e : TypeId) (cs : Array Value) (n sz : Nat) (hb : base ≤ w.heap.size) (hm : n ≤ maxLen) (hs : cs.size = n * sz) :
    Own (w.alloc (.cells cs e)) base e sz (some ⟨w.heap.size, 0, none⟩) n n cs.toList := World.ownsRow_lit w cs n hb hm hs
end

/-- the block of an owned slice, whole -/
theorem Own.blk {w : World} {base n c sz : Nat} {e : TypeId} {A : Option Addr} {xs : List Value} (h : Own w base e sz A n c xs) {b : Nat} (hb : Go.Proofs.Ytaiopdipldaimaa.inB A b) : ∃ cs, Blk w b e cs := by
  obtain ⟨ad, rfl, rfl⟩ := hb
  rcases h.2 with ⟨hv, _⟩ | ⟨g, cap, cur, hv, _, hg, _⟩
  · cases hv
  · injection hv with h1
    injection h1 with h1
    subst h1
    exact ⟨cur, hg⟩
/-- owned slices of different types lie in different blocks -/
theorem Own.ne {w : World} {base n c sz base' n' c' sz' : Nat} {e e' : TypeId} {A A' : Option Addr} {xs xs' : List Value} (h : Own w base e sz A n c xs) (h' : Own w base' e' sz' A' n' c' xs') (he : e ≠ e') {b : Nat} (hb : Go.Proofs.Ytaiopdipldaimaa.inB A b) : ¬ Go.Proofs.Ytaiopdipldaimaa.inB A' b := by
  intro hb'
  obtain ⟨cs, h1⟩ := h.blk hb
  obtain ⟨cs', h2⟩ := h'.blk hb'
  exact h1.ne h2 he rfl
theorem Own.ne_blk {w : World} {base n c sz g : Nat} {e e' : TypeId} {A : Option Addr} {xs : List Value} {cs : Array Value} (h : Own w base e sz A n c xs) (h' : Blk w g e' cs) (he : e ≠ e') {b : Nat} (hb : Go.Proofs.Ytaiopdipldaimaa.inB A b) : b ≠ g := by
  obtain ⟨cs, h1⟩ := h.blk hb
  exact h1.ne h' he

theorem Rd.take {w : World} {B sz n k : Nat} {A : Option Addr} {xs : List Value} (h : Rd w B A sz n xs) (hk : k ≤ n) : Rd w B A sz k (xs.take (k * sz)) := by
  refine ⟨by rw [List.length_take, h.1]; have := Nat.mul_le_mul_right sz hk; omega, fun h0 => ?_⟩
  obtain ⟨b, off, e, hb, hc⟩ := h.2 (by omega)
  refine ⟨b, off, e, hb, fun j u hu => hc j u ?_⟩
  rw [List.getElem?_take] at hu
  split at hu
  · exact hu
  · cases hu
theorem Rd.take1 {w : World} {B n k : Nat} {A : Option Addr} {l : List UInt8} (h : Rd w B A 1 n (l.map by8)) (hk : k ≤ n) : Rd w B A 1 k ((l.take k).map by8) := by
  have := h.take hk
  rwa [Nat.mul_one, ← List.map_take] at this
theorem by8_of (v : Int) (h0 : 0 ≤ v) (h1 : v < 256) : ∃ q : UInt8, by8 q = .int .u8 v := by
  refine ⟨v.toNat.toUInt8, ?_⟩
  have : v.toNat.toUInt8.toNat = v.toNat := by show v.toNat % 256 = _; omega
  show Value.int .u8 ((v.toNat.toUInt8.toNat : Nat) : Int) = _
  rw [this]; congr 1; omega

section
variable {P : Program} (w : World)
theorem run_append_nil (base : Nat) (t ty e : TypeId) (i : TypeInfo) (size : Nat) (ht : P.underlying t = some (.slice e)) (hi : P.info? e = some i)
    (v : Value) (n : Nat) (xs : List Value) (hown : w.ownsRow base e size v n xs) (c : Nat) : (Builtin.append_ #[t, t] ty #[v, .slice none 0 c]).run P w = .ok v w := by
  rcases hown.2 with ⟨rfl, rfl⟩ | ⟨g, cap, cur, rfl, _, _, hnc, _⟩
  · simp [Builtin.append_, run_underlying ht, sizeOf, typeInfo, hi, Builtin.lenOf, Builtin.firstCells]
  · simp [Builtin.append_, run_underlying ht, sizeOf, typeInfo, hi, Builtin.lenOf, Builtin.firstCells, hnc, storeCells]

theorem run_app {t e : TypeId} {sz bytes : Nat} (E : ElemOf P t e sz bytes) (ty : TypeId) (base : Nat) (A : Option Addr) (n c : Nat) (xs : List Value) (hown : Own w base e sz A n c xs)
    (B : Nat) (A2 : Option Addr) (m c2 : Nat) (news : List Value) (hr : Rd w B A2 sz m news) (h1 : ∀ u ∈ news, u.oneCell' = true)
    (h63 : n + m ≤ maxLen) (hbytes : (n + m) * bytes ≤ 140737488355328) (hbase : base ≤ w.heap.size) :
    ∃ A' c' w', (Builtin.append_ #[t, t] ty #[.slice A n c, .slice A2 m c2]).run P w = .ok (.slice A' (n + m) c') w' ∧ Own w' base e sz A' (n + m) c' (xs ++ news) ∧ Keeps (inB A) w w' ∧
      (∀ k, inB A' k → inB A k ∨ w.heap.size ≤ k) := by
  obtain ⟨ht, ⟨i, z, hi, hz, hsize, hby, hzs⟩, hpos⟩ := E
  have shape : ∀ {v' : Value} {w' : World}, w'.ownsRow base e sz v' (n + m) (xs ++ news) → ∃ A' c', v' = .slice A' (n + m) c' := by
    intro v' w' h
    rcases h.2 with ⟨rfl, h0⟩ | ⟨g, cap, cur, rfl, _⟩
    · exact ⟨none, 0, by rw [h0]⟩
    · exact ⟨_, _, rfl⟩
  have fin : ∀ (ad : Addr), (∀ j u, news[j]? = some u → w.cell? (ad.add j) = some u) → A2 = some ad → ∃ A' c' w', (Builtin.append_ #[t, t] ty #[.slice A n c, .slice A2 m c2]).run P w = .ok (.slice A' (n + m) c') w' ∧ Own w' base e sz A' (n + m) c' (xs ++ news) ∧ Keeps (inB A) w w' ∧
      (∀ k, inB A' k → inB A k ∨ w.heap.size ≤ k) := by
    rintro ad hcells rfl
    obtain ⟨v', w', hrun, h2, h3, _, h5⟩ := run_append_own_at (P := P) w base t ty e i z sz bytes ht hi hz hsize hby hzs hpos (.slice A n c) n xs hown ad m c2 news hr.1 hcells h1 h63 hbytes hbase
    obtain ⟨A', c', rfl⟩ := shape h2
    refine ⟨A', c', w', hrun, h2, ⟨h3.os, h3.tape, h3.output, h3.size, fun k hk hn => h3.block k hk (fun he => hn ?_)⟩, fun k hk => ?_⟩
    · cases A with
      | none => simp [Value.ownBlock] at he
      | some ad => exact ⟨ad, rfl, by simpa [Value.ownBlock] using he.symm⟩
    · obtain ⟨ad', rfl, rfl⟩ := hk
      rcases h5 with h5 | h5
      · left
        cases A with
        | none => simp [Value.ownBlock] at h5
        | some ad => exact ⟨ad, rfl, by simp [Value.ownBlock] at h5; exact h5.symm⟩
      · right
        simp [Value.ownBlock] at h5
        omega
  rcases Nat.eq_zero_or_pos m with h0 | h0
  · subst h0
    have hn : news = [] := List.eq_nil_of_length_eq_zero (by simpa using hr.1)
    subst hn
    cases A2 with
    | none =>
      exact ⟨A, c, w, run_append_nil w base t ty e i sz ht hi _ n xs hown c2, by simpa using hown, Keeps.refl _ _, fun k hk => .inl hk⟩
    | some ad => exact fin ad (by simp) rfl
  · obtain ⟨b, off, rfl, hb, hc⟩ := hr.2 h0
    exact fin ⟨b, off, none⟩ (fun j u hu => by rw [add_plain]; exact hc j u hu) rfl

theorem wp_app {o : Oper} {a : Act} {K : Act → World → Prop} {Q : Exit → Act → World → Prop} {t e : TypeId} {sz bytes : Nat} (E : ElemOf P t e sz bytes) (s x : Operand)
    (ho : o.op = .call { callee := .builtin .append, args := #[s, x], argTypes := #[t, t] })
    (base : Nat) {A : Option Addr} {n c : Nat} (xs : List Value) (hs : a.eval s = .slice A n c) (hown : Own w base e sz A n c xs)
    (B : Nat) {A2 : Option Addr} {m c2 : Nat} (news : List Value) (hx : a.eval x = .slice A2 m c2) (hr : Rd w B A2 sz m news) (h1 : ∀ u ∈ news, u.oneCell' = true)
    (h63 : n + m ≤ maxLen) (hbytes : (n + m) * bytes ≤ 140737488355328) (hbase : base ≤ w.heap.size)
    (h : ∀ A' c' w', Own w' base e sz A' (n + m) c' (xs ++ news) → Keeps (inB A) w w' → (∀ k, inB A' k → inB A k ∨ w.heap.size ≤ k) → K (a.put o.dst (.slice A' (n + m) c')) w') : o.wp P a w K Q := by
  obtain ⟨A', c', w', hrun, h2, h3, h4⟩ := run_app (P := P) w E o.type base A n c xs hown B A2 m c2 news hr h1 h63 hbytes hbase
  unfold Oper.wp execOp
  simp only [ho, resolve, invoke, builtin, Sem.run_bind, Sem.run_pure, Result.andThen_ok, List.map_toArray, List.map_cons, List.map_nil, hs, hx, hrun]
  exact h A' c' w' h2 h3 h4

/-- append onto a slice of the call's own, as an arm of the walk: 'at_builtin; refine wpList_app ..' -/
theorem wpList_app {ops : Array Oper} {rest : List Oper} {o : Oper} {a : Act} {Q : Exit → Act → World → Prop} {t e : TypeId} {sz bytes : Nat} (E : ElemOf P t e sz bytes) (hgd : o.guard = none) (s x : Operand)
    (ho : o.op = .call { callee := .builtin .append, args := #[s, x], argTypes := #[t, t] })
    (base : Nat) {A : Option Addr} {n c : Nat} (xs : List Value) (hs : a.eval s = .slice A n c) (hown : Own w base e sz A n c xs)
    (B : Nat) {A2 : Option Addr} {m c2 : Nat} (news : List Value) (hx : a.eval x = .slice A2 m c2) (hr : Rd w B A2 sz m news) (h1 : ∀ u ∈ news, u.oneCell' = true)
    (h63 : n + m ≤ maxLen) (hbytes : (n + m) * bytes ≤ 140737488355328) (hbase : base ≤ w.heap.size)
    (h : ∀ A' c' w', Own w' base e sz A' (n + m) c' (xs ++ news) → Keeps (inB A) w w' → (∀ k, inB A' k → inB A k ∨ w.heap.size ≤ k) → wpList P ops Q rest (a.put o.dst (.slice A' (n + m) c')) w') : wpList P ops Q (o :: rest) a w :=
  wpList_plain hgd fun _ hK => wp_app w E s x ho base xs hs hown B news hx hr h1 h63 hbytes hbase fun A' c' w' h2 h3 h4 => hK _ _ (h A' c' w' h2 h3 h4)

/-- the same, in a region that draws its order ('go_region_law') -/
theorem step_app {ops : Array Oper} {o : Oper} {a : Act} {K : Act → World → Prop} {Q : Exit → Act → World → Prop} {F : Prop} {t e : TypeId} {sz bytes : Nat} (E : ElemOf P t e sz bytes) (hgd : o.guard = none) (s x : Operand)
    (ho : o.op = .call { callee := .builtin .append, args := #[s, x], argTypes := #[t, t] })
    (base : Nat) {A : Option Addr} {n c : Nat} (xs : List Value) (hs : a.eval s = .slice A n c) (hown : Own w base e sz A n c xs)
    (B : Nat) {A2 : Option Addr} {m c2 : Nat} (news : List Value) (hx : a.eval x = .slice A2 m c2) (hr : Rd w B A2 sz m news) (h1 : ∀ u ∈ news, u.oneCell' = true)
    (h63 : n + m ≤ maxLen) (hbytes : (n + m) * bytes ≤ 140737488355328) (hbase : base ≤ w.heap.size)
    (h : ∀ A' c' w', Own w' base e sz A' (n + m) c' (xs ++ news) → Keeps (inB A) w w' → (∀ k, inB A' k → inB A k ∨ w.heap.size ≤ k) → K (a.put o.dst (.slice A' (n + m) c')) w') :
    if Region.wanted o (yielded ops a.tmps) = true then Oper.wp P o a w K Q else F := by
  have hw : Region.wanted o (yielded ops a.tmps) = true := by simp [Region.wanted, hgd]
  rw [if_pos hw]
  exact wp_app w E s x ho base xs hs hown B news hx hr h1 h63 hbytes hbase h
end

/-- 's[lo:]' of a slice that reads as a list -/
theorem sub_lo {P : Program} {t e : TypeId} {sz bytes : Nat} (E : ElemOf P t e sz bytes) (A : Option Addr) (n c : Nat) (k : IntKind) (x : Int) (h0 : 0 ≤ x) (h1 : x ≤ n) (hnc : n ≤ c) :
    ∃ A', (∀ w, (Instr.sliceAt t (.slice A n c) (some (.int k x)) none none).run P w = .ok (.slice A' (n - x.toNat) (c - x.toNat)) w) ∧
      (∀ w B xs, Rd w B A sz n xs → Rd w B A' sz (n - x.toNat) (xs.drop (x.toNat * sz))) ∧ (∀ j, inB A' j → inB A j) := by
  obtain ⟨ht, ⟨i, z, hi, hz, hsize, hby, hzs⟩, hpos⟩ := E
  have hel : P.elem t = e := by simp [Program.elem, ht]
  refine ⟨if c = x.toNat then A else A.map (·.add (x.toNat * sz)), fun w => ?_, fun w B xs hr => ⟨?_, fun hn => ?_⟩, fun j hj => ?_⟩
  · rw [run_sliceAt_slice _ _ _ _ _ _ (by rw [hel]; exact ht), run_slice_l _ _ _ _ _ (by rw [hel]; exact ht) _ _ h0 h1]
    simp [sizeOf, typeInfo, hel, hi, hsize, sliced]
  · rw [List.length_drop, hr.1, Nat.sub_mul]
  · obtain ⟨b, off, rfl, hb, hc⟩ := hr.2 (by omega)
    by_cases hcx : c = x.toNat
    · subst hcx
      rcases Nat.eq_zero_or_pos x.toNat with h | h
      · rw [if_pos rfl, h]
        exact ⟨b, off, rfl, hb, fun j u hu => hc j u (by simpa using hu)⟩
      · rw [if_pos rfl]
        exfalso
        omega
    · rw [if_neg hcx]
      refine ⟨b, off + x.toNat * sz, by simp [Addr.add], hb, fun j u hu => ?_⟩
      rw [List.getElem?_drop] at hu
      rw [Nat.add_assoc]
      exact hc _ u hu
  · obtain ⟨ad, h, rfl⟩ := hj
    split at h
    · exact ⟨ad, h, rfl⟩
    · cases A with
      | none => cases h
      | some a => simp at h; subst h; exact ⟨a, rfl, by unfold Addr.add; split <;> rfl⟩

theorem elem8 : ElemOf Try.prog 46 5 1 1 := ElemOf.mk' (z := .int .u8 0) Try.underlying46 (by kernel_rfl) rfl (by omega)
end Go.Proofs.Ytaiopdipldaimaa
