/-
  countmin: New and slices.Clone, by their contracts.
-/
import Derived.Test.YtaiopdipldaimaaCmA
import Derived.RegionTactic
import Derived.ChangeAlike
set_option linter.unusedVariables false
set_option linter.unusedSimpArgs false
namespace Go.Proofs.Ytaiopdipldaimaa
open Go.RowKit

theorem elem64 : ElemOf Try.prog 31 24 1 8 := ElemOf.mk' (z := .int .u64 0) Try.underlying31 (by kernel_rfl) rfl (by omega)
theorem run_make64 (n : Nat) (hn : n ≤ 65536) (w : World) : (Instr.makeSlice 31 (.int .i64 (n : Int)) (.int .i64 (n : Int))).run Try.prog w = .ok (.slice (some ⟨w.heap.size, 0, none⟩) n n) (w.alloc (.cells (List.replicate n (.int .u64 0)).toArray 24)) := by
  have hi : (Try.prog.info? 24).map (fun i => (i.zero, i.size, i.bytes)) = some (some (.int .u64 0), 1, 8) := by kernel_rfl
  obtain ⟨i, h1, h2, h3, h4⟩ := info_parts hi
  have hr := run_make (P := Try.prog) w 31 24 i (.int .u64 0) Try.underlying31 h1 h2 .i64 .i64 (n : Int) (n : Int) (by omega) (by omega) (by rw [h4]; omega) (by omega)
  rw [hr, Int.toNat_natCast, h3, Nat.mul_one]
  have : madeCells (Value.int .u64 0).cells n = (List.replicate n (Value.int .u64 0)).toArray := by
    apply Array.ext'
    rw [show (Value.int .u64 0).cells = #[Value.int .u64 0] from rfl]
    refine List.ext_getElem (by simp [madeCells]) (fun j h1 h2 => ?_)
    simp [madeCells, Nat.mod_one]
  rw [this]

/-- what Clone leaves -/
def Cloned (w : World) (n : Nat) (xs : List Value) (e : Ending) (w' : World) : Prop :=
  ∃ A' c', e = .returned (.slice A' n c') ∧ Own w' w.heap.size 24 1 A' n c' xs ∧ Keeps (fun _ => False) w w'
set_option maxRecDepth 100000 in
theorem clone_any {w : World} {B : Nat} {A : Option Addr} {n c : Nat} {zs : List Int} (hr : Rd w B A 1 n (zs.map (.int .u64))) (hn : n ≤ 1099511627776) :
    Calls Try.prog 47 #[.slice A n c] w (Cloned w n (zs.map (.int .u64))) := by
  cases A with
  | none =>
    obtain rfl : n = 0 := by
      rcases Nat.eq_zero_or_pos n with h | h
      · exact h
      · obtain ⟨b, off, e, _⟩ := hr.2 h; cases e
    obtain rfl : zs = [] := List.eq_nil_of_length_eq_zero (by simpa using hr.1)
    clear hr
    have heq := fun w => Lib.run_eql_slice_nil (P := Try.prog) w 31 24 none 0 c 0 0 Try.underlying31
    go_enter Try.func47, Try.ntmps47
    go_wp2_with fail
    go_ret
    exact ⟨none, 0, rfl, Own.nil _ _ _ _, Keeps.refl _ _⟩
  | some ad =>
    have HR := hide hr
    clear hr
    have heq := fun w => Lib.run_eql_slice_nil (P := Try.prog) w 31 24 (some ad) n c 0 0 Try.underlying31
    go_enter Try.func47, Try.ntmps47
    go_wp2_with (at_builtin; refine wpList_app _ elem64 rfl _ _ rfl w.heap.size _ rfl (Own.new0 _ _ 24 1 _ (by simp) (by omega)) _ (m := n) _ rfl (HR.out.kept ((Keeps.refl (fun _ => False) w).alloc _) (fun _ _ h => h)) (by intro u hu; simp at hu; obtain ⟨z, _, rfl⟩ := hu; rfl) (by simp [maxLen]; omega) (by omega) (by simp) ?_; intro A5 c5 w5 o5 k5 hA5; rw [Nat.zero_add, List.nil_append] at o5; have O5 := hide o5; have K5 := hide k5; clear o5 k5 hA5)
    go_ret
    exact ⟨A5, c5, rfl, O5.out, ((Keeps.refl _ w).alloc _).step K5.out (fun k hk h => by have := (inB_some _ _ _).1 h; omega)⟩

/-- the error of a new sketch -/
def newE (depth width : Int) (tl : Nat) : Int := if depth < 1 ∨ 4 < depth ∨ width < 1 ∨ 256 < width then 1 else if tl = 16 then 0 else 11
theorem new_bad {w : World} {A : Option Addr} {n c : Nat} (depth width seed : Int) (d0 : -9223372036854775808 ≤ depth) (d1 : depth < 9223372036854775808) (h : newE depth width n ≠ 0) :
    Calls Try.prog 15 #[.int .i64 depth, .int .i64 width, .slice A n c, .int .u64 seed] w fun e w' => e = .returned (.tuple #[.pointer none, .int .i64 (newE depth width n)]) ∧ w = w' := by
  by_cases hr : depth < 1 ∨ 4 < depth ∨ width < 1 ∨ 256 < width
  · have hE : Hid (newE depth width n = 1) := by show _ = _; unfold newE; rw [if_pos hr]
    rw [hE.out]
    clear h
    by_cases h1 : depth < 1
    · go_enter Try.func15, Try.ntmps15
      go_wp2_with fail
      go_ret2
      exact ⟨rfl, rfl⟩
    by_cases h2 : 4 < depth
    · go_enter Try.func15, Try.ntmps15
      go_wp2_with fail
      go_ret2
      exact ⟨rfl, rfl⟩
    by_cases h3 : width < 1
    · go_enter Try.func15, Try.ntmps15
      go_wp2_with fail
      go_ret2
      exact ⟨rfl, rfl⟩
    have h4 : 256 < width := by omega
    go_enter Try.func15, Try.ntmps15
    go_wp2_with fail
    go_ret2
    exact ⟨rfl, rfl⟩
  · have hn : n ≠ 16 := fun hn => h (by unfold newE; rw [if_neg hr, if_pos hn])
    have hE : Hid (newE depth width n = 11) := by show _ = _; unfold newE; rw [if_neg hr, if_neg hn]
    rw [hE.out]
    have h1 : 1 ≤ depth := by omega
    have h2 : depth ≤ 4 := by omega
    have h3 : 1 ≤ width := by omega
    have h4 : width ≤ 256 := by omega
    have HC := hide (fun w => Hash.check_not A n c hn w)
    clear h hr hn
    go_enter Try.func15, Try.ntmps15
    go_wp2_with fail
    refine (HC.out _).mono ?_
    rintro e w2 ⟨rfl, rfl⟩
    go_wp2_with fail
    go_ret2
    exact ⟨rfl, rfl⟩
/-- what New leaves: a sketch in new blocks -/
def Newed (w : World) (d n : Nat) (zs : List Int) (seed : Int) (e : Ending) (w' : World) : Prop :=
  ∃ (g : Nat) (bs : Nat → Nat) (bt ct : Nat), e = .returned (.tuple #[.pointer (some ⟨g, 0, none⟩), .int .i64 0]) ∧ Sk w' w.heap.size w'.heap.size g d n (Cmp.news d n) zs seed 0 bs bt ct ∧ g ≠ bt ∧ Keeps (fun _ => False) w w'
/-- while the rows are made -/
def NRel (w : World) (d n : Nat) (zs : List Int) (seed : Int) (g bt ct k : Nat) (wr : World) : Prop :=
  ∃ (cs : Array Value) (bs : Nat → Nat), Blk wr g 93 cs ∧ cs.size = 8 ∧ cs[0]? = some (.int .i64 d) ∧ (∀ i, i < k → cs[1 + i]? = some (.slice (some ⟨bs i, 0, none⟩) n n)) ∧
    cs[5]? = some (.slice (some ⟨bt, 0, none⟩) 16 ct) ∧ cs[6]? = some (.int .u64 seed) ∧ cs[7]? = some (.int .u64 0) ∧ (∀ i, i < k → Blk wr (bs i) 24 (List.replicate n (.int .u64 0)).toArray ∧ g < bs i ∧ bs i < wr.heap.size) ∧
    (∀ i j, i < k → j < k → bs i = bs j → i = j) ∧ Rd wr g (some ⟨bt, 0, none⟩) 1 16 (zs.map (.int .u64)) ∧ w.heap.size ≤ bt ∧ bt < g ∧ g < wr.heap.size ∧ Keeps (fun _ => False) w wr
theorem NRel.step {w wr : World} {d n : Nat} {zs : List Int} {seed : Int} {g bt ct k : Nat} (hk : k < 4) (hwg : w.heap.size ≤ g) (h : NRel w d n zs seed g bt ct k wr) :
    NRel w d n zs seed g bt ct (k + 1) (((wr.setCell ⟨g, 1 + k, none⟩ (.slice (some ⟨wr.heap.size, 0, none⟩) n n)).alloc (.cells (Array.replicate n (.int .u64 0)) 24)).drew) := by
  obtain ⟨cs, bs, h1, h2, h3, h4, h5, h6, h7, h8, h9, h10, h11, h12, h13, h14⟩ := h
  have kS : Keeps (· = g) wr (wr.setCell ⟨g, 1 + k, none⟩ (.slice (some ⟨wr.heap.size, 0, none⟩) n n)) := Keeps.setCell (S := (· = g)) (p := ⟨g, 1 + k, none⟩) (Keeps.refl _ _) (.inl rfl) _
  have kA : Keeps (fun _ => False) (wr.setCell ⟨g, 1 + k, none⟩ (.slice (some ⟨wr.heap.size, 0, none⟩) n n)) (((wr.setCell ⟨g, 1 + k, none⟩ (.slice (some ⟨wr.heap.size, 0, none⟩) n n)).alloc (.cells (Array.replicate n (.int .u64 0)) 24)).drew) := ((Keeps.refl _ _).alloc _).drew
  have hs0 : (wr.setCell ⟨g, 1 + k, none⟩ (.slice (some ⟨wr.heap.size, 0, none⟩) n n)).heap.size = wr.heap.size := by simp [World.setCell]
  have hs1 : (((wr.setCell ⟨g, 1 + k, none⟩ (.slice (some ⟨wr.heap.size, 0, none⟩) n n)).alloc (.cells (Array.replicate n (.int .u64 0)) 24)).drew).heap.size = wr.heap.size + 1 := by show ((wr.setCell ⟨g, 1 + k, none⟩ (.slice (some ⟨wr.heap.size, 0, none⟩) n n)).alloc _).heap.size = _; rw [World.size_alloc, hs0]
  refine ⟨_, fun j => if j = k then wr.heap.size else bs j, ((h1.set (1 + k) _).alloc _).drew, by simpa using h2, ?_, ?_, ?_, ?_, ?_, ?_, ?_, ?_, h11, h12, by rw [hs1]; omega, ?_⟩
  · rw [Array.getElem?_setIfInBounds, if_neg (by omega)]; exact h3
  · intro i hi
    rw [Array.getElem?_setIfInBounds]
    by_cases hik : i = k
    · subst hik; simp; omega
    · rw [if_neg (by omega)]; simp only [if_neg hik]; exact h4 i (by omega)
  · rw [Array.getElem?_setIfInBounds, if_neg (by omega)]; exact h5
  · rw [Array.getElem?_setIfInBounds, if_neg (by omega)]; exact h6
  · rw [Array.getElem?_setIfInBounds, if_neg (by omega)]; exact h7
  · intro i hi
    rw [hs1]
    by_cases hik : i = k
    · subst hik
      simp only [if_true]
      refine ⟨?_, by omega, by omega⟩
      have := (Blk.new_at (wr.setCell ⟨g, 1 + i, none⟩ (.slice (some ⟨wr.heap.size, 0, none⟩) n n)) 24 (Array.replicate n (.int .u64 0)) wr.heap.size hs0.symm).drew
      simpa using this
    · simp only [if_neg hik]
      obtain ⟨g1, g2, g3⟩ := h8 i (by omega)
      exact ⟨(g1.kept kS (by omega)).kept kA (fun h => h), g2, by omega⟩
  · intro i j hi hj he
    by_cases hik : i = k <;> by_cases hjk : j = k
    · omega
    · simp only [hik, if_true, if_neg hjk] at he
      have := (h8 j (by omega)).2.2
      omega
    · simp only [hjk, if_true, if_neg hik] at he
      have := (h8 i (by omega)).2.2
      omega
    · simp only [if_neg hik, if_neg hjk] at he
      exact h9 i j (by omega) (by omega) he
  · exact (h10.kept kS (fun b hb e => by omega)).kept kA (fun _ _ h => h)
  · exact (h14.step kS (fun b hb e => by omega)).trans kA
theorem NRel.done {w wr : World} {d n : Nat} {zs : List Int} {seed : Int} {g bt ct : Nat} (hd : 1 ≤ d ∧ d ≤ 4) (hn : 1 ≤ n ∧ n ≤ 256) (s0 : 0 ≤ seed) (s1 : seed < 18446744073709551616) (hz : zs.length = 16) (hzb : ∀ z ∈ zs, 0 ≤ z ∧ z < 18446744073709551616)
    (hwg : w.heap.size ≤ g) (h : NRel w d n zs seed g bt ct d wr) : Newed w d n zs seed (.returned (.tuple #[.pointer (some ⟨g, 0, none⟩), .int .i64 0])) wr := by
  obtain ⟨cs, bs, h1, h2, h3, h4, h5, h6, h7, h8, h9, h10, h11, h12, h13, h14⟩ := h
  refine ⟨g, bs, bt, ct, rfl, ⟨⟨cs, h1, h3, h4, h5, h6, h7⟩, fun i hi => ?_, h10.more (by omega), fun i hi => by have := (h8 i hi).2.1; omega, h9, ⟨hwg, h13⟩, fun i hi => ⟨by have := (h8 i hi).2.1; omega, (h8 i hi).2.2⟩, ⟨h11, by omega⟩, Cmp.fine_news d n, hz, hzb, ⟨s0, s1⟩, hd, hn, ⟨by omega, by omega⟩⟩, by omega, h14⟩
  have := (h8 i hi).1
  have e : (Cmp.news d n).getD i [] = List.replicate n 0 := by simp [Cmp.news, List.getD, hi]
  rw [e, List.map_replicate]
  exact this

set_option maxHeartbeats 1000000 in
theorem new_ok {w : World} {B : Nat} {A : Option Addr} {c : Nat} (d n : Nat) (hd : 1 ≤ d ∧ d ≤ 4) (hn : 1 ≤ n ∧ n ≤ 256) (seed : Int) (s0 : 0 ≤ seed) (s1 : seed < 18446744073709551616) (zs : List Int) (hzb : ∀ z ∈ zs, 0 ≤ z ∧ z < 18446744073709551616)
    (hr : Rd w B A 1 16 (zs.map (.int .u64))) :
    Calls Try.prog 15 #[.int .i64 d, .int .i64 n, .slice A 16 c, .int .u64 seed] w (Newed w d n zs seed) := by
  have HC := hide (fun w => Hash.check_16 A c w)
  have HCL := hide (clone_any (c := c) hr (by omega))
  have hzl : zs.length = 16 := by simpa using hr.1
  have HZL := hide hzl
  have HZB := hide hzb
  have hmk := fun w => run_make64 n (by omega) w
  clear hr hzl hzb
  go_enter Try.func15, Try.ntmps15
  go_wp2_with fail
  refine (HC.out _).mono ?_
  rintro e w2 ⟨rfl, rfl⟩
  go_wp2_with fail
  refine HCL.out.mono ?_
  rintro e w1 ⟨A1, c1, rfl, o1, k1⟩
  obtain ⟨bt, rfl, hbt, hbt'⟩ := o1.some_ (by omega)
  have RT := hide (o1.rd (by omega))
  have K1 := hide k1
  clear o1 k1
  go_wp2_with fail
  have hsz := K1.out.size
  have hN : NRel w d n zs seed w1.heap.size bt c1 0 (w1.alloc (.cells #[.int .i64 d, .slice none 0 0, .slice none 0 0, .slice none 0 0, .slice none 0 0, .slice (some ⟨bt, 0, none⟩) 16 c1, .int .u64 seed, .int .u64 0] 93)) :=
    ⟨_, fun _ => 0, Blk.new _ _ _, rfl, rfl, fun i hi => by omega, rfl, rfl, rfl, fun i hi => by omega, fun i j hi hj _ => by omega, RT.out.kept ((Keeps.refl (fun _ => False) w1).alloc _) (fun _ _ h => h), hbt, hbt', by simp, K1.out.alloc _⟩
  go_loopw [39] (fun i wr => ∃ k : Nat, k ≤ d ∧ i = .int .i64 k ∧ NRel w d n zs seed w1.heap.size bt c1 k wr) (fun i _ => d - (intOf i).toNat)
  case atStart => exact ⟨0, by omega, rfl, hN⟩
  case round =>
    obtain ⟨k, hk, rfl, hr⟩ := hrel
    clear hN
    by_cases hlt : k < d
    · have hstep := NRel.step (by omega) hsz hr
      obtain ⟨cs, bs, h1, h2, _⟩ := hr
      have f1 := h1.frozen (1 + k)
      have c1' := h1.cell (1 + k)
      rw [Array.getElem?_eq_getElem (by omega)] at c1'
      generalize cs[1 + k]'(by omega) = v at *
      have hg := h1.lt
      have HSTEP := hide hstep
      have hkI : (k : Int) < 4 := by omega
      have hk0 : (0 : Int) ≤ (k : Int) := by omega
      clear h1 h2 hstep
      go_wp2_with fail
      go_region
      go_wp2_with fail
      go_roundw
      case rel => exact ⟨k + 1, by omega, by go_num, HSTEP.out⟩
      case measure => simp [intOf]; omega
    · obtain rfl : k = d := by omega
      go_wp2_with fail
      go_ret2
      exact hr.done hd hn s0 s1 HZL.out HZB.out hsz
end Go.Proofs.Ytaiopdipldaimaa
