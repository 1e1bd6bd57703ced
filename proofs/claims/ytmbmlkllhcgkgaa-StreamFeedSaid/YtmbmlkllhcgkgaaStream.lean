/-
  stream.feed: one byte, by its contract.
-/
import Derived.Test.YtmbmlkllhcgkgaaVarint
import Derived.Test.YtmbmlkllhcgkgaaSt
set_option linter.unusedVariables false
set_option linter.unusedSimpArgs false
namespace Go.Proofs.Ytmbmlkllhcgkgaa
open Go.RowKit
open Vp Stp

/-- the slice with address A reads as the cells xs, in a block of P -/
def RdP (w : World) (P : Nat → Prop) (A : Option Addr) (sz n : Nat) (xs : List Value) : Prop :=
  xs.length = n * sz ∧ (0 < n → ∃ b off, A = some ⟨b, off, none⟩ ∧ P b ∧ b < w.heap.size ∧ ∀ j u, xs[j]? = some u → w.cell? ⟨b, off + j, none⟩ = some u)
theorem RdP.kept {w w' : World} {P S : Nat → Prop} {A : Option Addr} {sz n : Nat} {xs : List Value} (h : RdP w P A sz n xs) (k : Keeps S w w') (hs : ∀ b, P b → b < w.heap.size → ¬ S b) : RdP w' P A sz n xs :=
  ⟨h.1, fun hn => by obtain ⟨b, off, e, hp, hl, hc⟩ := h.2 hn; exact ⟨b, off, e, hp, Nat.lt_of_lt_of_le hl k.size, fun j u hu => k.cell_some (hc j u hu) (hs b hp hl)⟩⟩
theorem RdP.weak {w : World} {P Q : Nat → Prop} {A : Option Addr} {sz n : Nat} {xs : List Value} (h : RdP w P A sz n xs) (hs : ∀ b, P b → b < w.heap.size → Q b) : RdP w Q A sz n xs :=
  ⟨h.1, fun hn => by obtain ⟨b, off, e, hp, hl, hc⟩ := h.2 hn; exact ⟨b, off, e, hs b hp hl, hl, hc⟩⟩
theorem RdP.rd {w : World} {P : Nat → Prop} {A : Option Addr} {sz n : Nat} {xs : List Value} (h : RdP w P A sz n xs) : Rd w w.heap.size A sz n xs :=
  ⟨h.1, fun hn => by obtain ⟨b, off, e, hp, hl, hc⟩ := h.2 hn; exact ⟨b, off, e, hl, hc⟩⟩
theorem own_rdP {w : World} {base n c sz : Nat} {e : TypeId} {A : Option Addr} {xs : List Value} {P : Nat → Prop} (h : Own w base e sz A n c xs) (hp : 0 < sz) (hP : ∀ b, inB A b → P b) : RdP w P A sz n xs :=
  ⟨h.1, fun hn => by
    obtain ⟨b, off, e', hl, hc⟩ := (h.rd hp).2 hn
    exact ⟨b, off, e', hP b ⟨_, e', rfl⟩, hl, hc⟩⟩

/-- the cells of a list of chunks: for each the slice of its body and its verdict -/
def ChCells (w : World) (P : Nat → Prop) : List Value → List Ch → Prop
  | [], [] => True
  | x :: y :: r, ch :: L => (∃ A n c, x = .slice A n c ∧ RdP w P A 1 n (ch.body.map by8)) ∧ y = .int .i64 ch.v ∧ ChCells w P r L
  | _, _ => False
theorem ChCells.len {w : World} {P : Nat → Prop} : ∀ {cells : List Value} {L : List Ch}, ChCells w P cells L → cells.length = L.length * 2
  | [], [], _ => rfl
  | _ :: _ :: r, _ :: L, h => by have := ChCells.len (cells := r) (L := L) h.2.2; simp; omega
theorem ChCells.kept {w w' : World} {P S : Nat → Prop} (k : Keeps S w w') (hs : ∀ b, P b → b < w.heap.size → ¬ S b) : ∀ {cells : List Value} {L : List Ch}, ChCells w P cells L → ChCells w' P cells L
  | [], [], _ => trivial
  | _ :: _ :: r, _ :: L, ⟨⟨A, n, c, e, h⟩, h2, h3⟩ => ⟨⟨A, n, c, e, h.kept k hs⟩, h2, ChCells.kept k hs h3⟩
theorem ChCells.weak {w : World} {P Q : Nat → Prop} (hs : ∀ b, P b → b < w.heap.size → Q b) : ∀ {cells : List Value} {L : List Ch}, ChCells w P cells L → ChCells w Q cells L
  | [], [], _ => trivial
  | _ :: _ :: r, _ :: L, ⟨⟨A, n, c, e, h⟩, h2, h3⟩ => ⟨⟨A, n, c, e, h.weak hs⟩, h2, ChCells.weak hs h3⟩
theorem ChCells.append {w : World} {P : Nat → Prop} : ∀ {cells cells2 : List Value} {L L2 : List Ch}, ChCells w P cells L → ChCells w P cells2 L2 → ChCells w P (cells ++ cells2) (L ++ L2)
  | [], _, [], _, _, h2 => h2
  | _ :: _ :: r, _, _ :: L, _, ⟨h, h', h3⟩, h2 => ⟨h, h', ChCells.append h3 h2⟩
theorem ChCells.one {w : World} {P : Nat → Prop} : ∀ {cells : List Value} {L : List Ch}, ChCells w P cells L → ∀ u ∈ cells, u.oneCell' = true
  | [], [], _, u, hu => by cases hu
  | x :: y :: r, ch :: L, ⟨⟨A, n, c, e, _⟩, h2, h3⟩, u, hu => by
    simp only [List.mem_cons] at hu
    rcases hu with rfl | rfl | hu
    · rw [e]; rfl
    · rw [h2]; rfl
    · exact ChCells.one h3 u hu
theorem ChCells.at_ {w : World} {P : Nat → Prop} : ∀ {cells : List Value} {L : List Ch} (i : Nat) (ch : Ch), ChCells w P cells L → L[i]? = some ch →
    ∃ A n c, cells[i * 2]? = some (.slice A n c) ∧ cells[i * 2 + 1]? = some (.int .i64 ch.v) ∧ RdP w P A 1 n (ch.body.map by8)
  | [], [], _, _, _, hi => by simp at hi
  | x :: y :: r, ch' :: L, 0, ch, ⟨⟨A, n, c, e, h⟩, h2, h3⟩, hi => by
    simp at hi; subst hi
    exact ⟨A, n, c, by simp [e], by simp [h2], h⟩
  | x :: y :: r, ch' :: L, i + 1, ch, ⟨_, _, h3⟩, hi => by
    obtain ⟨A, n, c, g1, g2, g3⟩ := ChCells.at_ i ch h3 (by simpa using hi)
    exact ⟨A, n, c, by rw [show (i + 1) * 2 = i * 2 + 1 + 1 from by omega]; simpa using g1, by rw [show (i + 1) * 2 + 1 = i * 2 + 1 + 1 + 1 from by omega]; simpa using g2, g3⟩

/-- what feeding one byte leaves -/
def Fed (w : World) (base : Nat) (A : Option Addr) (r : St × List Ch) (e : Ending) (w' : World) : Prop :=
  ∃ (A' : Option Addr) (n' c' : Nat) (C : Option Addr) (m mc : Nat) (cells : List Value),
    e = .returned (.tuple #[.agg #[.slice A' n' c', .int .u64 r.1.skip, .bool r.1.broken], .slice C m mc]) ∧ Own w' base 5 1 A' n' c' (r.1.buf.map by8) ∧
    (∀ k, inB A' k → inB A k ∨ w.heap.size ≤ k) ∧ Own w' w.heap.size 42 2 C m mc cells ∧ ChCells w' (fun b => w.heap.size ≤ b ∧ ¬ inB A' b) cells r.2 ∧ Keeps (inB A) w w'

theorem set3_keeps (W : World) (g : Nat) (v0 v1 v2 : Value) : Keeps (· = g) W (((W.setCell ⟨g, 0, none⟩ v0).setCell ⟨g, 1, none⟩ v1).setCell ⟨g, 2, none⟩ v2) :=
  Keeps.setCell (S := (· = g)) (p := ⟨g, 2, none⟩) (Keeps.setCell (S := (· = g)) (p := ⟨g, 1, none⟩) (Keeps.setCell (S := (· = g)) (p := ⟨g, 0, none⟩) (Keeps.refl _ _) (.inl rfl) _) (.inl rfl) _) (.inl rfl) _
theorem fed_lit {w W : World} {base : Nat} {A : Option Addr} (K : Keeps (inB A) w W) (h : w.heap.size + 1 < W.heap.size) (hA : ∀ k, inB A k → k < w.heap.size) (v0 v1 v2 : Value) (sk v : Int) (br : Bool) :
    Fed w base A (⟨[], sk, br⟩, [⟨[], v⟩]) (.returned (.tuple #[.agg #[.slice none 0 0, .int .u64 sk, .bool br], .slice (some ⟨W.heap.size, 0, none⟩) 1 1]))
      ((((W.setCell ⟨w.heap.size + 1, 0, none⟩ v0).setCell ⟨w.heap.size + 1, 1, none⟩ v1).setCell ⟨w.heap.size + 1, 2, none⟩ v2).alloc (.cells #[.slice none 0 0, .int .i64 v] 42)) := by
  have hz : W.heap.size = (((W.setCell ⟨w.heap.size + 1, 0, none⟩ v0).setCell ⟨w.heap.size + 1, 1, none⟩ v1).setCell ⟨w.heap.size + 1, 2, none⟩ v2).heap.size := by simp [World.setCell]
  have hle := K.size
  refine ⟨none, 0, 0, some ⟨W.heap.size, 0, none⟩, 1, 1, [.slice none 0 0, .int .i64 v], rfl, Own.nil _ _ _ _, fun k hk => absurd hk (inB_none k), ?_, ?_, ?_⟩
  · rw [hz]
    exact Own.new _ _ 42 #[.slice none 0 0, .int .i64 v] 1 2 (by rw [← hz]; omega) (by simp [maxLen]) rfl
  · exact ⟨⟨none, 0, 0, rfl, ⟨rfl, fun h => by omega⟩⟩, rfl, trivial⟩
  · exact (((K.setCell (.inr (by show w.heap.size ≤ w.heap.size + 1; omega)) _).setCell (.inr (by show w.heap.size ≤ w.heap.size + 1; omega)) _).setCell (.inr (by show w.heap.size ≤ w.heap.size + 1; omega)) _).alloc _

theorem fed_more {w W : World} {base n c : Nat} {A A' : Option Addr} {l : List UInt8} (K : Keeps (inB A) w W) (h : w.heap.size + 1 < W.heap.size) (o : Own W base 5 1 A' n c (l.map by8))
    (hA : ∀ k, inB A' k → inB A k ∨ w.heap.size + 2 ≤ k) (hN : ∀ k, inB A' k → k ≠ w.heap.size ∧ k ≠ w.heap.size + 1) (v0 v1 v2 : Value) (sk : Int) (br : Bool) :
    Fed w base A (⟨l, sk, br⟩, []) (.returned (.tuple #[.agg #[.slice A' n c, .int .u64 sk, .bool br], .slice none 0 0]))
      (((W.setCell ⟨w.heap.size + 1, 0, none⟩ v0).setCell ⟨w.heap.size + 1, 1, none⟩ v1).setCell ⟨w.heap.size + 1, 2, none⟩ v2) := by
  have hle := K.size
  refine ⟨A', n, c, none, 0, 0, [], rfl, ?_, fun k hk => (hA k hk).imp_right (fun h => by omega), Own.nil _ _ _ _, trivial, ?_⟩
  · have k2 : Keeps (· = w.heap.size + 1) W (((W.setCell ⟨w.heap.size + 1, 0, none⟩ v0).setCell ⟨w.heap.size + 1, 1, none⟩ v1).setCell ⟨w.heap.size + 1, 2, none⟩ v2) :=
      set3_keeps _ _ _ _ _
    exact o.kept k2 (fun b hb e => (hN b hb).2 e)
  · exact ((K.setCell (.inr (by show w.heap.size ≤ w.heap.size + 1; omega)) _).setCell (.inr (by show w.heap.size ≤ w.heap.size + 1; omega)) _).setCell (.inr (by show w.heap.size ≤ w.heap.size + 1; omega)) _
theorem fed_done {w W : World} {base n c : Nat} {A A' : Option Addr} {l : List UInt8} (K : Keeps (inB A) w W) (h : w.heap.size + 1 < W.heap.size) (o : Own W (w.heap.size + 2) 5 1 A' n c (l.map by8))
    (v0 v1 v2 : Value) :
    Fed w base A (⟨[], 0, false⟩, [⟨l, 0⟩]) (.returned (.tuple #[.agg #[.slice none 0 0, .int .u64 0, .bool false], .slice (some ⟨W.heap.size, 0, none⟩) 1 1]))
      ((((W.setCell ⟨w.heap.size + 1, 0, none⟩ v0).setCell ⟨w.heap.size + 1, 1, none⟩ v1).setCell ⟨w.heap.size + 1, 2, none⟩ v2).alloc (.cells #[.slice A' n c, .int .i64 0] 42)) := by
  have hz : W.heap.size = (((W.setCell ⟨w.heap.size + 1, 0, none⟩ v0).setCell ⟨w.heap.size + 1, 1, none⟩ v1).setCell ⟨w.heap.size + 1, 2, none⟩ v2).heap.size := by simp [World.setCell]
  have hle := K.size
  have k2 : Keeps (· = w.heap.size + 1) W ((((W.setCell ⟨w.heap.size + 1, 0, none⟩ v0).setCell ⟨w.heap.size + 1, 1, none⟩ v1).setCell ⟨w.heap.size + 1, 2, none⟩ v2).alloc (.cells #[.slice A' n c, .int .i64 0] 42)) :=
    (set3_keeps _ _ _ _ _).alloc _
  have o2 := o.kept k2 (fun b hb e => by have := o.inB hb; omega)
  refine ⟨none, 0, 0, some ⟨W.heap.size, 0, none⟩, 1, 1, [.slice A' n c, .int .i64 0], rfl, Own.nil _ _ _ _, fun k hk => absurd hk (inB_none k), ?_, ?_, ?_⟩
  · rw [hz]
    exact Own.new _ _ 42 #[.slice A' n c, .int .i64 0] 1 2 (by rw [← hz]; omega) (by simp [maxLen]) rfl
  · exact ⟨⟨A', n, c, rfl, own_rdP o2 (by omega) (fun b hb => ⟨by have := o.inB hb; omega, inB_none b⟩)⟩, rfl, trivial⟩
  · exact (((K.setCell (.inr (by show w.heap.size ≤ w.heap.size + 1; omega)) _).setCell (.inr (by show w.heap.size ≤ w.heap.size + 1; omega)) _).setCell (.inr (by show w.heap.size ≤ w.heap.size + 1; omega)) _).alloc _

theorem feed_any (s : St) (hg : Stp.Good s) (A : Option Addr) (n c base : Nat) (w : World) (own : Own w base 5 1 A n c (s.buf.map by8)) (hB : base ≤ w.heap.size) (x : UInt8) :
    Calls Try.prog 22 #[.agg #[.slice A n c, .int .u64 s.skip, .bool s.broken], .int .u8 (x.toNat : Int)] w (Fed w base A (feed1 s x)) := by
  obtain ⟨buf, skip, broken⟩ := s
  have hln : buf.length = n := by simpa using own.len
  obtain ⟨g0, g1, g2⟩ := hg
  simp only at g0 g1 g2 own ⊢
  have OWN := hide own
  have HL := hide hln
  clear own hln
  cases broken
  case true =>
    have F : Hid (feed1 ⟨buf, skip, true⟩ x = (⟨buf, skip, true⟩, [])) := by simp [Hid, feed1]
    rw [F.out]
    clear F g2
    go_enter Try.func22, Try.ntmps22
    go_wp2_with fail
    refine bodyPost_ret (v := .tuple #[.agg #[.slice A n c, .int .u64 skip, .bool true], .slice none 0 0]) (by simp [results, Try.results22, go_sem]) rfl ?_
    have K := (((Keeps.refl (inB A) w).alloc (.cells #[.slice A n c, .int .u64 skip, .bool true] 28)).alloc (.cells #[.slice A n c, .int .u64 skip, .bool true] 28))
    have K' := (((Keeps.refl (fun _ => False) w).alloc (.cells #[.slice A n c, .int .u64 skip, .bool true] 28)).alloc (.cells #[.slice A n c, .int .u64 skip, .bool true] 28))
    exact ⟨A, n, c, none, 0, 0, [], rfl, OWN.out.kept K' (fun _ _ h => h), fun k h => .inl h, Own.nil _ _ _ _, trivial, K⟩
  case false =>
    have hinc := g2 rfl
    have hlt := inc_lt _ hinc
    have HINC := hide hinc
    clear g2 hinc
    by_cases hsk : 0 < skip
    · have F : Hid (feed1 ⟨buf, skip, false⟩ x = (⟨buf, skip - 1, false⟩, [])) := by simp [Hid, feed1, hsk]
      rw [F.out]
      clear F
      go_enter Try.func22, Try.ntmps22
      go_wp2_with fail
      refine bodyPost_ret (v := .tuple #[.agg #[.slice A n c, .int .u64 (skip - 1), .bool false], .slice none 0 0]) (by simp [results, Try.results22, go_sem]) rfl ?_
      have K := (((Keeps.refl (inB A) w).alloc (.cells #[.slice A n c, .int .u64 (skip - 1), .bool false] 28)).alloc (.cells #[.slice A n c, .int .u64 (skip - 1), .bool false] 28))
      have K' := (((Keeps.refl (fun _ => False) w).alloc (.cells #[.slice A n c, .int .u64 (skip - 1), .bool false] 28)).alloc (.cells #[.slice A n c, .int .u64 (skip - 1), .bool false] 28))
      exact ⟨A, n, c, none, 0, 0, [], rfl, OWN.out.kept K' (fun _ _ h => h), fun k h => .inl h, Own.nil _ _ _ _, trivial, K⟩
    · have hsk0 : skip ≤ 0 := by omega
      have hA : ∀ k, inB A k → base ≤ k ∧ k < w.heap.size := fun k h => OWN.out.inB h
      have hln := HL.out
      have hn : n ≤ 4097 := by omega
      have he := parse_e (buf ++ [x])
      have hok := parse_ok (buf ++ [x])
      obtain ⟨pn, pu, pe, ho⟩ : ∃ a b e : Int, a = ((parse (buf ++ [x])).1 : Nat) ∧ b = ((parse (buf ++ [x])).2.1 : Nat) ∧ e = ((parse (buf ++ [x])).2.2 : Nat) := ⟨_, _, _, rfl, rfl, rfl⟩
      have hout : Varint.out (buf ++ [x]) = .tuple #[.int .u64 pn, .int .i64 pu, .int .i64 pe] := by unfold Varint.out; rw [ho.1, ho.2.1, ho.2.2]
      have HO := hide ho
      have HOUT := hide hout
      have HOK := hide hok
      have HA := hide hA
      clear ho hout hok hA hln
      have he' : pe = 0 ∨ pe = 2 ∨ pe = 3 := by have := HO.out.2.2; omega
      clear he
      go_enter Try.func22, Try.ntmps22
      go_wp2_with (first
        | (at_builtin
           refine wpList_app _ elem8 rfl (.tmp 23) (.tmp 25) rfl base _ rfl (by exact OWN.out.kept ((((Keeps.refl (fun _ => False) w).alloc _).alloc _).alloc _) (fun _ _ h => h)) _ [by8 x] rfl (by exact Blk.rd (xs := [by8 x]) (Blk.new_at _ _ _ _ (by simp)) rfl) (by8_one [x]) (by simp only [maxLen]; omega) (by omega) (by simp; omega) ?_
           intro A2 c2 w2 o2 k2 hA2
           have B1 : Blk w2 w.heap.size 28 #[.slice A n c, .int .u64 skip, .bool false] := (((Blk.new w _ _).alloc _).alloc _).kept k2 (fun h => by have := HA.out _ h; omega)
           have B2 : Blk w2 (w.heap.size + 1) 28 #[.slice none 0 0, .int .u64 0, .bool false] := ((Blk.new_at _ _ _ _ (by simp)).alloc _).kept k2 (fun h => by have := HA.out _ h; omega)
           obtain ⟨⟨c10, c11, c12⟩, ⟨f10, f11, f12⟩, _⟩ := B1.three
           obtain ⟨⟨c20, c21, c22⟩, ⟨f20, f21, f22⟩, hsz2⟩ := B2.three
           have OO := hide o2
           have KK := hide k2
           have HA2 := hide hA2
           have BB1 := hide B1
           have BB2 := hide B2
           clear o2 k2 hA2 B1 B2))
      obtain ⟨W, hW⟩ : ∃ W, W = w2.setCell ⟨w.heap.size, 0, none⟩ (.slice A2 (n + 1) c2) := ⟨_, rfl⟩
      rw [← hW]
      have hna : ∀ k, inB A2 k → k ≠ w.heap.size ∧ k ≠ w.heap.size + 1 := fun k h => by
        rcases HA2.out k h with h | h
        · have := HA.out k h; omega
        · simp at h; omega
      have KW : Keeps (· = w.heap.size) w2 W := by rw [hW]; exact Keeps.setCell (S := (· = w.heap.size)) (p := ⟨w.heap.size, 0, none⟩) (Keeps.refl _ _) (.inl rfl) _
      have O3 : Own W base 5 1 A2 (n + 1) c2 ((buf ++ [x]).map by8) := by rw [List.map_append]; exact OO.out.kept KW (fun k h e => (hna k h).1 e)
      have B1 : Blk W w.heap.size 28 #[.slice A2 (n + 1) c2, .int .u64 skip, .bool false] := by rw [hW]; exact BB1.out.set 0 _
      have B2 : Blk W (w.heap.size + 1) 28 #[.slice none 0 0, .int .u64 0, .bool false] := BB2.out.kept KW (by omega)
      have K3 : Keeps (inB A) w W := ((((((Keeps.refl (inB A) w).alloc _).alloc _).alloc _).trans KK.out).step KW (fun k hk e => by omega))
      have HA3 : ∀ k, inB A2 k → inB A k ∨ w.heap.size + 2 ≤ k := fun k h => by
        rcases HA2.out k h with h | h
        · exact .inl h
        · simp at h; exact .inr (by omega)
      clear hW KW OO BB1 BB2 HA2 KK c10 c11 c12 f10 f11 f12 c20 c21 c22 f20 f21 f22 hsz2
      refine (Varint.read_any (buf ++ [x]) A2 (n + 1) c2 _ W (O3.rd (by omega)) (by omega)).mono ?_
      rintro e w3 ⟨rfl, rfl⟩
      rw [HOUT.out]
      obtain ⟨⟨c10, c11, c12⟩, ⟨f10, f11, f12⟩, _⟩ := B1.three
      obtain ⟨⟨c20, c21, c22⟩, ⟨f20, f21, f22⟩, hsz2⟩ := B2.three
      have O3' := hide O3
      have K3' := hide K3
      have HA3' := hide HA3
      have HNA := hide hna
      clear O3 K3 HA3 hna
      have hle3 := O3'.out.le
      have hpn : 0 ≤ pn := by rw [HO.out.1]; omega
      have hpu : 0 ≤ pu := by rw [HO.out.2.1]; omega
      rcases he' with rfl | rfl | rfl
      · have hok := HOK.out (by have := HO.out.2.2; omega)
        have hpu1 : 1 ≤ pu ∧ pu ≤ n + 1 := by
          have h1 := hok.1
          have h2 := hok.2.1
          have h3 := HL.out
          rw [HO.out.2.1]
          simp at h2
          omega
        have hpnx : pn < 18446744073709551616 := by rw [HO.out.1]; have := hok.2.2.2; omega
        clear hok
        have hF : (feed1 ⟨buf, skip, false⟩ x) = if 4096 < pn then (⟨[], pn, false⟩, [⟨[], 2⟩]) else if (n : Int) + 1 - pu < pn then (⟨buf ++ [x], skip, false⟩, []) else (⟨[], 0, false⟩, [⟨(buf ++ [x]).drop pu.toNat, 0⟩]) := by
          have h1 := HO.out
          have h2 := HL.out
          have h3 : (buf ++ [x]).length = buf.length + 1 := by simp
          unfold feed1
          dsimp only
          rw [if_neg (by simp), if_neg (by simpa using hsk0), if_neg (by omega), if_neg (by omega)]
          rw [h3]
          by_cases hb : 4096 < pn
          · rw [if_pos (by omega), if_pos hb, ← h1.1]
          · rw [if_neg (by omega), if_neg hb]
            by_cases hm : (n : Int) + 1 - pu < pn
            · rw [if_pos (by omega), if_pos hm]
            · rw [if_neg (by omega), if_neg hm, h1.2.1]; simp
        have HF := hide hF
        clear hF
        by_cases hbig : 4096 < pn
        · go_wp2_with fail
          refine bodyPost_ret (v := .tuple #[.agg #[.slice none 0 0, .int .u64 pn, .bool false], .slice (some ⟨W.heap.size, 0, none⟩) 1 1]) (by simp [results, Try.results22, go_sem, c20, c21, c22, hsz2]) rfl ?_
          rw [HF.out, if_pos hbig]
          exact fed_lit K3'.out hsz2 (fun k h => (HA.out k h).2) _ _ _ _ _ _
        · by_cases hmore : (n : Int) + 1 - pu < pn
          · go_wp2_with fail
            refine bodyPost_ret (v := .tuple #[.agg #[.slice A2 (n + 1) c2, .int .u64 skip, .bool false], .slice none 0 0]) (by simp [results, Try.results22, go_sem, c20, c21, c22, hsz2]) rfl ?_
            rw [HF.out, if_neg (by omega), if_pos hmore]
            exact fed_more K3'.out hsz2 O3'.out HA3'.out HNA.out _ _ _ _ _
          · obtain ⟨g, rfl, hg1, hg2⟩ := O3'.out.some_ (by omega)
            obtain ⟨A4, hsl, hsr, hsb⟩ := sub_lo elem8 (some ⟨g, 0, none⟩) (n + 1) c2 .i64 pu hpu (by omega) hle3
            have RD4 : Hid (Rd W W.heap.size A4 1 (n + 1 - pu.toNat) (((buf ++ [x]).drop pu.toNat).map by8)) := by
              have := hsr W _ _ (O3'.out.rd (by omega))
              rw [Nat.mul_one, ← List.map_drop] at this
              exact this
            clear hsr hsb
            go_wp2_with (first
              | (at_builtin
                 refine wpList_app _ elem8 rfl (.tmp 63) (.tmp 67) rfl W.heap.size _ rfl (Own.new _ _ 5 #[] 0 1 (Nat.le_refl _) (by simp [maxLen]) rfl) W.heap.size (m := n + 1 - pu.toNat) _ rfl (RD4.out.kept ((Keeps.refl (fun _ => False) W).alloc _) (fun _ _ h => h)) (by8_one _) (by simp [maxLen]; omega) (by omega) (by simp) ?_
                 intro A5 c5 w5 o5 k5 hA5
                 have B5 : Blk w5 (w.heap.size + 1) 28 #[.slice none 0 0, .int .u64 0, .bool false] := (B2.alloc _).kept k5 (fun h => by have := (inB_some _ _ _).1 h; omega)
                 obtain ⟨⟨c50, c51, c52⟩, ⟨f50, f51, f52⟩, hsz5⟩ := B5.three
                 rw [Nat.zero_add, List.nil_append] at o5
                 have O5 := hide o5
                 have K5 := hide k5
                 have HA5 := hide hA5
                 clear o5 k5 hA5 B5))
            refine bodyPost_ret (v := .tuple #[.agg #[.slice none 0 0, .int .u64 0, .bool false], .slice (some ⟨w5.heap.size, 0, none⟩) 1 1]) (by simp [results, Try.results22, go_sem, c50, c51, c52, hsz5]) rfl ?_
            rw [HF.out, if_neg (by omega), if_neg (by omega)]
            exact fed_done ((K3'.out.alloc _).step K5.out (fun k hk e => by have := (inB_some _ _ _).1 e; omega)) hsz5 (O5.out.base_le (by omega)) _ _ _
      · go_wp2_with fail
        have hF : (feed1 ⟨buf, skip, false⟩ x) = (⟨buf ++ [x], skip, false⟩, []) := by
          have h1 := HO.out
          unfold feed1
          dsimp only
          rw [if_neg (by simp), if_neg (by simpa using hsk0), if_neg (by omega), if_pos (by omega)]
        refine bodyPost_ret (v := .tuple #[.agg #[.slice A2 (n + 1) c2, .int .u64 skip, .bool false], .slice none 0 0]) (by simp [results, Try.results22, go_sem, c20, c21, c22, hsz2]) rfl ?_
        rw [hF]
        exact fed_more K3'.out hsz2 O3'.out HA3'.out HNA.out _ _ _ _ _
      · have hF : (feed1 ⟨buf, skip, false⟩ x) = (⟨[], 0, true⟩, [⟨[], 1⟩]) := by
          have h1 := HO.out
          unfold feed1
          dsimp only
          rw [if_neg (by simp), if_neg (by simpa using hsk0), if_pos (by omega)]
        have HF := hide hF
        clear hF
        go_wp2_with fail
        refine bodyPost_ret (v := .tuple #[.agg #[.slice none 0 0, .int .u64 0, .bool true], .slice (some ⟨W.heap.size, 0, none⟩) 1 1]) (by simp [results, Try.results22, go_sem, c20, c21, c22, hsz2]) rfl ?_
        rw [HF.out]
        exact fed_lit K3'.out hsz2 (fun k h => (HA.out k h).2) _ _ _ _ _ _
end Go.Proofs.Ytmbmlkllhcgkgaa
