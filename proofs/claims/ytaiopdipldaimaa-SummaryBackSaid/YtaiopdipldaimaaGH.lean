/-
  The reference's sketch: what it is in memory, and NewSketch by its contract. countmin: Rows; the reference's comparisons of words and of rows.
-/
import Derived.Test.YtaiopdipldaimaaGG
import Derived.Test.YtaiopdipldaimaaCmO
import Derived.Deep.RegionLaw
set_option linter.unusedVariables false
set_option linter.unusedSimpArgs false
namespace Go.Proofs.Ytaiopdipldaimaa
open Go.RowKit

theorem elemRow : ElemOf Try.prog 43 31 1 24 := ElemOf.mk' (z := .slice none 0 0) Try.underlying43 (by kernel_rfl) rfl (by omega)
/-- the cells of d rows of n counters -/
def rowCells (bs : Nat → Nat) (n d : Nat) : List Value := (List.range d).map fun i => .slice (some ⟨bs i, 0, none⟩) n n
theorem rowCells_succ (bs : Nat → Nat) (n d : Nat) : rowCells bs n (d + 1) = rowCells bs n d ++ [.slice (some ⟨bs d, 0, none⟩) n n] := by simp [rowCells, List.range_succ]
theorem rowCells_len (bs : Nat → Nat) (n d : Nat) : (rowCells bs n d).length = d := by simp [rowCells]

/-- Block g holds a sketch of the reference's. -/
structure RSk (w : World) (lo hi g d n : Nat) (R : Cmp.Rows) (zs : List Int) (seed total : Int) (A : Option Addr) (co : Nat) (bs : Nat → Nat) (bt ct : Nat) : Prop where
  blk : Blk w g 72 #[.slice A d co, .slice (some ⟨bt, 0, none⟩) 16 ct, .int .u64 seed, .int .u64 total]
  out : Own w lo 31 1 A d co (rowCells bs n d)
  outhi : ∀ k, inB A k → k < hi
  rows : ∀ i, i < d → Blk w (bs i) 24 ((R.getD i []).map (.int .u64)).toArray
  tab : Rd w w.heap.size (some ⟨bt, 0, none⟩) 1 16 (zs.map (.int .u64))
  tabne : ∀ i, i < d → bs i ≠ bt
  inj : ∀ i j, i < d → j < d → bs i = bs j → i = j
  lo_g : lo ≤ g ∧ g < hi
  gt : g ≠ bt
  lo_r : ∀ i, i < d → lo ≤ bs i ∧ bs i < hi
  lo_t : lo ≤ bt ∧ bt < hi
  fine : Cmp.Fine R d n total
  zl : zs.length = 16
  zb : ∀ z ∈ zs, 0 ≤ z ∧ z < 18446744073709551616
  sd : 0 ≤ seed ∧ seed < 18446744073709551616
  dd : 1 ≤ d ∧ d ≤ 4
  nn : 1 ≤ n ∧ n ≤ 256
  tt : 0 ≤ total ∧ total ≤ 9223372036854775808
theorem tab_kept {w w' : World} {S : Nat → Prop} {bt : Nat} {xs : List Value} (h : Rd w w.heap.size (some ⟨bt, 0, none⟩) 1 16 xs) (k : Keeps S w w') (hs : ¬ S bt) : Rd w' w'.heap.size (some ⟨bt, 0, none⟩) 1 16 xs := by
  refine ⟨h.1, fun hn => ?_⟩
  obtain ⟨b, off, e, hb2, hcell⟩ := h.2 hn
  injection e with e
  injection e with e1 e2
  subst e1 e2
  exact ⟨bt, 0, rfl, by have := k.size; omega, fun j u hu => k.cell_some (hcell j u hu) hs⟩
section
variable {w w' : World} {lo hi g d n : Nat} {R : Cmp.Rows} {zs : List Int} {seed total : Int} {A : Option Addr} {co : Nat} {bs : Nat → Nat} {bt ct : Nat}
theorem RSk.kept {S : Nat → Prop} (h : RSk w lo hi g d n R zs seed total A co bs bt ct) (k : Keeps S w w') (hs : ∀ b, lo ≤ b → b < hi → ¬ S b) : RSk w' lo hi g d n R zs seed total A co bs bt ct := by
  obtain ⟨h1, h2, h3, h4, h5, h6, h7, h8, h8', h9, h10, h11, h12, h13, h14, h15, h16, h17⟩ := h
  exact ⟨h1.kept k (hs _ h8.1 h8.2), h2.kept k (fun b hb => hs b (h2.inB hb).1 (h3 b hb)), h3, fun i hi => (h4 i hi).kept k (hs _ (h9 i hi).1 (h9 i hi).2), tab_kept h5 k (hs _ h10.1 h10.2), h6, h7, h8, h8', h9, h10, h11, h12, h13, h14, h15, h16, h17⟩
theorem RSk.drewN (h : RSk w lo hi g d n R zs seed total A co bs bt ct) (k : Nat) : RSk (w.drewN k) lo hi g d n R zs seed total A co bs bt ct := h.kept (S := fun _ => False) ((Keeps.refl _ _).drewN k) (fun _ _ _ hh => hh)
/-- its rows, for the reference's Estimate -/
def rowsF (bs : Nat → Nat) (n : Nat) (R : Cmp.Rows) : RowsF := fun i => (some ⟨bs i, 0, none⟩, n, n, R.getD i [])
theorem rowsF_cells (bs : Nat → Nat) (n d : Nat) (R : Cmp.Rows) : ((List.range d).map fun j => Value.slice (rowsF bs n R j).1 (rowsF bs n R j).2.1 (rowsF bs n R j).2.2.1) = rowCells bs n d := rfl
theorem rowsF_L (bs : Nat → Nat) (n d : Nat) (R : Cmp.Rows) (h : R.length = d) : Cmp.rowsL (rowsF bs n R) d = R := by
  unfold Cmp.rowsL rowsF
  refine List.ext_getElem (by simp [h]) (fun j h1 h2 => ?_)
  simp [List.getD, h2]
theorem fine_wf (h : Cmp.Fine R d n total) (ht : total ≤ 9223372036854775808) (i : Nat) (hi : i < d) : ∀ z ∈ R.getD i [], (Lit.int .u64 z).wf = true := by
  intro z hz
  obtain ⟨j, hj, rfl⟩ := List.getElem_of_mem hz
  have := h.2.2 i j
  unfold Cmp.cell at this
  rw [List.getD, List.getElem?_eq_getElem hj] at this
  simp only [Option.getD_some] at this
  have h1 : IntKind.u64.min = 0 := rfl
  have h2 : IntKind.u64.max = 18446744073709551615 := rfl
  simp only [Lit.wf, Bool.and_eq_true, decide_eq_true_eq]
  omega
theorem RSk.rowsRd (h : RSk w lo hi g d n R zs seed total A co bs bt ct) : RowsRd w w.heap.size .u64 d (rowsF bs n R) := fun j hj =>
  ⟨(h.rows j hj).rd (by have := h.fine.2.1 j hj; simp only [rowsF, List.length_map]; omega), fine_wf h.fine h.tt.2 j hj, Nat.le_refl _, by have := h.nn; show n ≤ maxLen; unfold maxLen; omega⟩
end

theorem rnew_bad {w : World} {A : Option Addr} {n c : Nat} (depth width seed : Int) (d0 : -9223372036854775808 ≤ depth) (d1 : depth < 9223372036854775808) (h : newE depth width n ≠ 0) :
    Calls Try.prog 32 #[.int .i64 depth, .int .i64 width, .slice A n c, .int .u64 seed] w fun e w' => e = .returned (.tuple #[.pointer none, .int .i64 (newE depth width n)]) ∧ w = w' := by
  by_cases hr : depth < 1 ∨ 4 < depth ∨ width < 1 ∨ 256 < width
  · have hE : Hid (newE depth width n = 1) := by show _ = _; unfold newE; rw [if_pos hr]
    rw [hE.out]
    clear h
    by_cases h1 : depth < 1
    · go_enter Try.func32, Try.ntmps32
      go_wp2_with fail
      go_ret2
      exact ⟨rfl, rfl⟩
    by_cases h2 : 4 < depth
    · go_enter Try.func32, Try.ntmps32
      go_wp2_with fail
      go_ret2
      exact ⟨rfl, rfl⟩
    by_cases h3 : width < 1
    · go_enter Try.func32, Try.ntmps32
      go_wp2_with fail
      go_ret2
      exact ⟨rfl, rfl⟩
    have h4 : 256 < width := by omega
    go_enter Try.func32, Try.ntmps32
    go_wp2_with fail
    go_ret2
    exact ⟨rfl, rfl⟩
  · have hn : n ≠ 16 := fun hn => h (by unfold newE; rw [if_neg hr, if_pos hn])
    have hE : Hid (newE depth width n = 11) := by show _ = _; unfold newE; rw [if_neg hr, if_neg hn]
    rw [hE.out]
    have h1 : 1 ≤ depth := by omega
    have h2 : depth ≤ 4 := by omega
    have h3 : 1 ≤ width := by omega
    have h4 : width ≤ 256 := by omega
    have HC := hide (fun w => Hash.rcheck_not A n c hn w)
    clear h hr hn
    go_enter Try.func32, Try.ntmps32
    go_wp2_with fail
    refine (HC.out _).mono ?_
    rintro e w2 ⟨rfl, rfl⟩
    go_wp2_with fail
    go_ret2
    exact ⟨rfl, rfl⟩
/-- what NewSketch leaves: a sketch in new blocks -/
def RNewed (w : World) (d n : Nat) (zs : List Int) (seed : Int) (e : Ending) (w' : World) : Prop :=
  ∃ (g : Nat) (A : Option Addr) (co : Nat) (bs : Nat → Nat) (bt ct : Nat), e = .returned (.tuple #[.pointer (some ⟨g, 0, none⟩), .int .i64 0]) ∧ RSk w' w.heap.size w'.heap.size g d n (Cmp.news d n) zs seed 0 A co bs bt ct ∧ Keeps (fun _ => False) w w'
/-- while the rows are made -/
def RRel (w : World) (n : Nat) (zs : List Int) (seed : Int) (g bt ct k : Nat) (wr : World) : Prop :=
  ∃ (A : Option Addr) (co : Nat) (bs : Nat → Nat), Blk wr g 72 #[.slice A k co, .slice (some ⟨bt, 0, none⟩) 16 ct, .int .u64 seed, .int .u64 0] ∧
    Own wr (g + 1) 31 1 A k co (rowCells bs n k) ∧ (∀ i, i < k → Blk wr (bs i) 24 (List.replicate n (.int .u64 0)).toArray ∧ g < bs i) ∧
    (∀ i j, i < k → j < k → bs i = bs j → i = j) ∧ Rd wr g (some ⟨bt, 0, none⟩) 1 16 (zs.map (.int .u64)) ∧ w.heap.size ≤ bt ∧ bt < g ∧ Keeps (fun _ => False) w wr
theorem RRel.done {w wr : World} {d n : Nat} {zs : List Int} {seed : Int} {g bt ct : Nat} (hd : 1 ≤ d ∧ d ≤ 4) (hn : 1 ≤ n ∧ n ≤ 256) (s0 : 0 ≤ seed) (s1 : seed < 18446744073709551616) (hz : zs.length = 16) (hzb : ∀ z ∈ zs, 0 ≤ z ∧ z < 18446744073709551616)
    (h : RRel w n zs seed g bt ct d wr) : RNewed w d n zs seed (.returned (.tuple #[.pointer (some ⟨g, 0, none⟩), .int .i64 0])) wr := by
  obtain ⟨A, co, bs, h1, h2, h3, h4, h5, h6, h7, h8⟩ := h
  have hg := h1.lt
  refine ⟨g, A, co, bs, bt, ct, rfl, ⟨h1, h2.base_le (by omega), fun k hk => (h2.inB hk).2, fun i hi => ?_, h5.more (by omega), fun i hi => by have := (h3 i hi).2; omega, h4, ⟨by omega, hg⟩, by omega, fun i hi => ⟨by have := (h3 i hi).2; omega, (h3 i hi).1.lt⟩, ⟨h6, by omega⟩, Cmp.fine_news d n, hz, hzb, ⟨s0, s1⟩, hd, hn, ⟨by omega, by omega⟩⟩, h8⟩
  have := (h3 i hi).1
  have e : (Cmp.news d n).getD i [] = List.replicate n 0 := by simp [Cmp.news, List.getD, hi]
  rw [e, List.map_replicate]
  exact this

set_option maxRecDepth 100000 in
set_option maxHeartbeats 1000000 in
theorem rnew_ok {w : World} {B : Nat} {A : Option Addr} {c : Nat} (d n : Nat) (hd : 1 ≤ d ∧ d ≤ 4) (hn : 1 ≤ n ∧ n ≤ 256) (seed : Int) (s0 : 0 ≤ seed) (s1 : seed < 18446744073709551616) (zs : List Int) (hzb : ∀ z ∈ zs, 0 ≤ z ∧ z < 18446744073709551616)
    (hr : Rd w B A 1 16 (zs.map (.int .u64))) :
    Calls Try.prog 32 #[.int .i64 d, .int .i64 n, .slice A 16 c, .int .u64 seed] w (RNewed w d n zs seed) := by
  have HC := hide (fun w => Hash.rcheck_16 A c w)
  have hzl : zs.length = 16 := by simpa using hr.1
  have HR := hide hr
  have HZL := hide hzl
  have HZB := hide hzb
  have hmk := fun w => run_make64 n (by omega) w
  clear hr hzl hzb
  go_enter Try.func32, Try.ntmps32
  go_wp2_with fail
  refine (HC.out _).mono ?_
  rintro e w2 ⟨rfl, rfl⟩
  go_wp2_with (at_builtin; refine wpList_app _ elem64 rfl _ _ rfl w.heap.size _ rfl (Own.new0 _ _ 24 1 _ (by first | rfl | simp) (by omega)) _ (m := 16) _ rfl (HR.out.kept ((Keeps.refl (fun _ => False) w).alloc _) (fun _ _ h => h)) (by intro u hu; simp at hu; obtain ⟨z, _, rfl⟩ := hu; rfl) (by simp [maxLen]) (by omega) (by simp) ?_; intro A1 c1 w1 o1 k1 _; rw [Nat.zero_add, List.nil_append] at o1; have O1 := hide o1; have K1 := hide (((Keeps.refl (fun _ => False) w).alloc (.cells #[] 24)).step k1 (fun k hk h => by have := (inB_some _ _ _).1 h; omega)); clear o1 k1)
  obtain ⟨bt, rfl, hbt, hbt'⟩ := O1.out.some_ (by omega)
  have hsz := K1.out.size
  have hN : RRel w n zs seed w1.heap.size bt c1 0 (w1.alloc (.cells #[.slice none 0 0, .slice (some ⟨bt, 0, none⟩) 16 c1, .int .u64 seed, .int .u64 0] 72)) :=
    ⟨none, 0, fun _ => 0, Blk.new _ _ _, Own.nil _ _ _ _, fun i hi => by omega, fun i j hi hj _ => by omega, (O1.out.rd (by omega)).kept ((Keeps.refl (fun _ => False) w1).alloc _) (fun _ _ h => h), hbt, hbt', K1.out.alloc _⟩
  have HN := hide hN
  clear hN
  go_loopw [12] (fun i wr => ∃ k : Nat, k ≤ d ∧ i = .int .i64 k ∧ RRel w n zs seed w1.heap.size bt c1 k wr) (fun i _ => d - (intOf i).toNat)
  case atStart => exact ⟨0, by omega, rfl, HN.out⟩
  case round =>
    obtain ⟨k, hk, rfl, hr⟩ := hrel
    clear HN
    by_cases hlt : k < d
    · obtain ⟨A, co, bs, b1, o1, hrows, hinj, htab, hw1, hw2, kp⟩ := hr
      have f0 := b1.frozen 0
      have c0' := b1.cell 0
      simp only [List.getElem?_toArray, List.getElem?_cons_zero] at c0'
      have hg := b1.lt
      have HB := hide b1
      have HO := hide o1
      have HROWS := hide hrows
      have HINJ := hide hinj
      have HTAB := hide htab
      have HKP := hide kp
      clear b1 o1 hrows hinj htab kp
      go_wp2_with fail
      go_region_law ((refine step_app _ elemRow (by rfl) (.tmp 47) (.tmp 50) (by rfl) (w1.heap.size + 1) _ (by rfl) (by exact HO.out.kept ((((Keeps.refl (fun _ => False) wr).drew).alloc _).alloc _) (fun _ _ h => h)) _ (m := 1) [.slice (some ⟨wr.heap.size, 0, none⟩) n n] (by rfl) (by exact Blk.rd (xs := [.slice (some ⟨wr.heap.size, 0, none⟩) n n]) (Blk.new_at _ _ _ _ (by simp)) rfl) (by simp [Value.oneCell']) (by simp only [maxLen]; omega) (by omega) (by simp; omega) ?_; intro A5 c5 w5 o5 k5 hA5; have O5 := hide o5; have K5 := hide k5; have B5 := ((HB.out.drew.alloc (.cells (List.replicate n (.int .u64 0)).toArray 24)).alloc (.cells #[.slice (some ⟨wr.heap.size, 0, none⟩) n n] 31)).kept k5 (fun h => by have := HO.out.inB h; omega); have c50 := B5.cell 0; simp only [List.getElem?_toArray, List.getElem?_cons_zero] at c50; have f50 := B5.frozen 0; have HB5 := hide B5; clear o5 k5 hA5 B5))
      all_goals
        have KS : Keeps (· = w1.heap.size) w5 (w5.setCell ⟨w1.heap.size, 0, none⟩ (.slice A5 (k + 1) c5)) := Keeps.setCell (S := (· = w1.heap.size)) (p := ⟨w1.heap.size, 0, none⟩) (Keeps.refl _ _) (.inl rfl) _
        have KA : Keeps (fun _ => False) wr ((wr.drew.alloc (.cells (List.replicate n (.int .u64 0)).toArray 24)).alloc (.cells #[.slice (some ⟨wr.heap.size, 0, none⟩) n n] 31)) := (((Keeps.refl _ wr).drew).alloc _).alloc _
        have hAB : ∀ b, inB A b → w1.heap.size < b ∧ b < wr.heap.size := fun b hb => by have := HO.out.inB hb; omega
        have hO := HO.out
        have hOB := HB.out
        have hRW := HROWS.out
        go_wp2_with fail
        go_roundw
        case rel =>
          refine ⟨k + 1, by omega, by go_num, A5, c5, fun j => if j = k then wr.heap.size else bs j, HB5.out.set 0 _, ?_, ?_, ?_, ?_, hw1, hw2, ?_⟩
          · have e : rowCells (fun j => if j = k then wr.heap.size else bs j) n (k + 1) = rowCells bs n k ++ [.slice (some ⟨wr.heap.size, 0, none⟩) n n] := by
              rw [rowCells_succ]
              congr 1
              · unfold rowCells
                exact List.map_congr_left fun j hj => by dsimp only; rw [if_neg (by have := List.mem_range.1 hj; omega)]
              · simp
            rw [e]
            exact O5.out.kept KS (fun b hb e => by have := O5.out.inB hb; omega)
          · intro j hj
            by_cases hjk : j = k
            · subst hjk
              simp only [if_true]
              have h1 := ((Blk.new_at wr.drew 24 (List.replicate n (.int .u64 0)).toArray wr.heap.size rfl).alloc (.cells #[.slice (some ⟨wr.heap.size, 0, none⟩) n n] 31))
              exact ⟨(h1.kept K5.out (fun h => by have := hAB _ h; omega)).kept KS (by omega), by omega⟩
            · simp only [if_neg hjk]
              obtain ⟨g1, g2⟩ := hRW j (by omega)
              exact ⟨((g1.kept KA (fun h => h)).kept K5.out (fun h => hO.ne_blk g1 (by decide) h rfl)).kept KS (by omega), g2⟩
          · intro i j hi hj he
            by_cases hik : i = k <;> by_cases hjk : j = k
            · omega
            · simp only [hik, if_true, if_neg hjk] at he
              have := (hRW j (by omega)).1.lt
              omega
            · simp only [hjk, if_true, if_neg hik] at he
              have := (hRW i (by omega)).1.lt
              omega
            · simp only [if_neg hik, if_neg hjk] at he
              exact HINJ.out i j (by omega) (by omega) he
          · exact ((HTAB.out.kept KA (fun _ _ h => h)).kept K5.out (fun b hb h => by have := hAB _ h; omega)).kept KS (fun b hb e => by omega)
          · exact ((HKP.out.trans KA).step K5.out (fun b hb h => by have := hAB _ h; omega)).step KS (fun b hb e => by omega)
        case measure => simp [intOf]; omega
    · obtain rfl : k = d := by omega
      go_wp2_with fail
      go_ret2
      exact hr.done hd hn s0 s1 HZL.out HZB.out

/-- what making a sketch leaves, for any arguments -/
def NewAny (w : World) (depth width : Int) (tl : Nat) (e : Ending) (w' : World) : Prop :=
  ∃ p : Option Addr, e = .returned (.tuple #[.pointer p, .int .i64 (newE depth width tl)]) ∧ (p.isNone = decide (newE depth width tl ≠ 0)) ∧ Keeps (fun _ => False) w w'
theorem new_all {w : World} {B : Nat} {A : Option Addr} {n c : Nat} (depth width seed : Int) (d0 : -9223372036854775808 ≤ depth) (d1 : depth < 9223372036854775808) (s0 : 0 ≤ seed) (s1 : seed < 18446744073709551616) (zs : List Int) (hzb : ∀ z ∈ zs, 0 ≤ z ∧ z < 18446744073709551616)
    (hr : Rd w B A 1 n (zs.map (.int .u64))) : Calls Try.prog 15 #[.int .i64 depth, .int .i64 width, .slice A n c, .int .u64 seed] w (NewAny w depth width n) := by
  by_cases h : newE depth width n = 0
  · have h0 := h
    unfold newE at h
    split at h
    · simp at h
    split at h
    · rename_i h1 h2
      subst h2
      obtain ⟨d, rfl⟩ : ∃ d : Nat, depth = (d : Int) := ⟨depth.toNat, by omega⟩
      obtain ⟨m, rfl⟩ : ∃ m : Nat, width = (m : Int) := ⟨width.toNat, by omega⟩
      refine (new_ok (c := c) d m (by omega) (by omega) seed s0 s1 zs hzb hr).mono ?_
      rintro e w' ⟨g, bs, bt, ct, he, _, _, kk⟩
      exact ⟨some ⟨g, 0, none⟩, by rw [he, h0], by simp [h0], kk⟩
    · simp at h
  · refine (new_bad (c := c) depth width seed d0 d1 h).mono ?_
    rintro e w' ⟨he, rfl⟩
    exact ⟨none, he, by simp [h], Keeps.refl _ _⟩
theorem rnew_all {w : World} {B : Nat} {A : Option Addr} {n c : Nat} (depth width seed : Int) (d0 : -9223372036854775808 ≤ depth) (d1 : depth < 9223372036854775808) (s0 : 0 ≤ seed) (s1 : seed < 18446744073709551616) (zs : List Int) (hzb : ∀ z ∈ zs, 0 ≤ z ∧ z < 18446744073709551616)
    (hr : Rd w B A 1 n (zs.map (.int .u64))) : Calls Try.prog 32 #[.int .i64 depth, .int .i64 width, .slice A n c, .int .u64 seed] w (NewAny w depth width n) := by
  by_cases h : newE depth width n = 0
  · have h0 := h
    unfold newE at h
    split at h
    · simp at h
    split at h
    · rename_i h1 h2
      subst h2
      obtain ⟨d, rfl⟩ : ∃ d : Nat, depth = (d : Int) := ⟨depth.toNat, by omega⟩
      obtain ⟨m, rfl⟩ : ∃ m : Nat, width = (m : Int) := ⟨width.toNat, by omega⟩
      refine (rnew_ok (c := c) d m (by omega) (by omega) seed s0 s1 zs hzb hr).mono ?_
      rintro e w' ⟨g, A', co, bs, bt, ct, he, _, kk⟩
      exact ⟨some ⟨g, 0, none⟩, by rw [he, h0], by simp [h0], kk⟩
    · simp at h
  · refine (rnew_bad (c := c) depth width seed d0 d1 h).mono ?_
    rintro e w' ⟨he, rfl⟩
    exact ⟨none, he, by simp [h], Keeps.refl _ _⟩
end Go.Proofs.Ytaiopdipldaimaa

set_option linter.unusedVariables false
set_option linter.unusedSimpArgs false
namespace Go.Proofs.Ytaiopdipldaimaa
open Go.RowKit

/-- what Rows leaves: copies of the rows -/
def RowsMade (w : World) (d n : Nat) (R : Cmp.Rows) (e : Ending) (w' : World) : Prop :=
  ∃ (C : Option Addr) (co : Nat) (F : RowsF), e = .returned (.slice C d co) ∧ Rd w' w'.heap.size C 1 d ((List.range d).map fun j => .slice (F j).1 (F j).2.1 (F j).2.2.1) ∧ RowsRd w' w'.heap.size .u64 d F ∧
    (∀ i, i < d → (F i).2.1 = n ∧ (F i).2.2.2 = R.getD i []) ∧ Keeps (fun _ => False) w w'
/-- while the rows are copied -/
def CRel (w : World) (n : Nat) (R : Cmp.Rows) (k : Nat) (out : Value) (wr : World) : Prop :=
  ∃ (C : Option Addr) (co : Nat) (F : RowsF), out = .slice C k co ∧ Own wr w.heap.size 31 1 C k co ((List.range k).map fun j => .slice (F j).1 (F j).2.1 (F j).2.2.1) ∧
    (∀ i, i < k → (F i).2.1 = n ∧ (F i).2.2.2 = R.getD i [] ∧ (F i).2.1 ≤ (F i).2.2.1 ∧ (F i).2.2.1 ≤ maxLen ∧ Own wr w.heap.size 24 1 (F i).1 n (F i).2.2.1 ((R.getD i []).map (.int .u64))) ∧ Keeps (fun _ => False) w wr
theorem Own.capm {w : World} {base n c sz : Nat} {e : TypeId} {A : Option Addr} {xs : List Value} (h : Own w base e sz A n c xs) : n ≤ c ∧ c ≤ maxLen := by
  rcases h.form with ⟨_, h1, h2⟩ | ⟨g, _, _, _, h1, h2⟩
  · subst h1 h2; exact ⟨Nat.le_refl _, Nat.zero_le _⟩
  · exact ⟨h1, h2⟩
theorem CRel.done {w wr : World} {n d : Nat} {R : Cmp.Rows} {total : Int} {out : Value} (hf : Cmp.Fine R d n total) (ht : total ≤ 9223372036854775808) (h : CRel w n R d out wr) : RowsMade w d n R (.returned out) wr := by
  obtain ⟨C, co, F, rfl, o, hrow, kp⟩ := h
  refine ⟨C, co, F, rfl, o.rd (by omega), fun j hj => ?_, fun i hi => ⟨(hrow i hi).1, (hrow i hi).2.1⟩, kp⟩
  obtain ⟨h1, h2, h3, h4, h5⟩ := hrow j hj
  rw [h2]
  refine ⟨?_, fine_wf hf ht j hj, h3, h4⟩
  rw [h1]
  exact h5.rd (by omega)

set_option maxRecDepth 100000 in
set_option maxHeartbeats 1000000 in
theorem rows_rel {w : World} {lo hi g d n : Nat} {R : Cmp.Rows} {zs : List Int} {seed total : Int} {bs : Nat → Nat} {bt ct : Nat} (h : Sk w lo hi g d n R zs seed total bs bt ct) :
    Calls Try.prog 33 #[.pointer (some ⟨g, 0, none⟩)] w fun e w' => ∃ out, e = .returned out ∧ CRel w n R d out w' := by
  have hd := h.dd
  have hn := h.nn
  have ht := h.tt
  have hfine := h.fine
  have HF := hide hfine
  obtain ⟨c7, c0, f7⟩ := h.tot
  have HSK := hide h
  clear h hfine
  have hd0 : (0 : Int) ≤ (d : Int) := by omega
  have hd4 : (d : Int) ≤ 4 := by omega
  go_enter Try.func33, Try.ntmps33
  go_wp2_with fail
  go_quiet (fail)
  go_wp2_with fail
  go_loopw [3, 17] (fun out i wr => ∃ k : Nat, k ≤ d ∧ i = .int .i64 k ∧ CRel w n R k out wr) (fun _ i _ => d - (intOf i).toNat)
  case atStart => exact ⟨0, by omega, rfl, none, 0, fun _ => (none, 0, 0, []), rfl, Own.nil _ _ _ _, fun i hi => by omega, (Keeps.refl _ _).drewN _⟩
  case round =>
    obtain ⟨k, hk, rfl, hr⟩ := hrel
    by_cases hlt : k < d
    · obtain ⟨C, co, F, rfl, o, hrow, kp⟩ := hr
      have sk := HSK.out.kept kp (fun _ _ _ h => h)
      obtain ⟨cs, hb, hc0, hcr, _⟩ := sk.blk
      have f1 := hb.cell (1 + k)
      rw [hcr k hlt] at f1
      have hrl := sk.fine.2.1 k hlt
      have hcl := clone_any (c := n) ((sk.rows k hlt).rd (show ((R.getD k []).map (Value.int .u64)).length = n * 1 by simp only [List.length_map]; omega)) (by omega)
      have HCL := hide hcl
      have HO := hide o
      have HROW := hide hrow
      have HKP := hide kp
      have hws := kp.size
      clear sk hb hc0 hcr hrl hcl o hrow kp c7 c0 f7
      go_wp2_with fail
      refine HCL.out.mono ?_
      rintro e w1 ⟨A1, c1, rfl, o1, k1⟩
      have O1 := hide (o1.base_le hws)
      have HO1 := hide (HO.out.kept k1 (fun _ _ h => h))
      have K1 := hide k1
      have hcap := o1.capm
      have hob : ∀ b, inB A1 b → wr.heap.size ≤ b := fun b hb => (o1.inB hb).1
      have HOB := hide hob
      have hw1 := k1.size
      clear o1 k1 hob
      go_wp2_with (at_builtin; refine wpList_app _ elemRow rfl (.tmp 21) (.tmp 24) rfl w.heap.size _ rfl (HO1.out.kept ((Keeps.refl (fun _ => False) w1).alloc _) (fun _ _ h => h)) _ (m := 1) [.slice A1 n c1] rfl (by exact Blk.rd (xs := [.slice A1 n c1]) (Blk.new_at _ _ _ _ (by simp)) rfl) (by simp [Value.oneCell']) (by simp only [maxLen]; omega) (by omega) (by simp; omega) ?_; intro C5 c5 w5 o5 k5 hC5; have O5 := hide o5; have K5 := hide k5; clear o5 k5 hC5)
      have KA := (Keeps.refl (fun _ => False) w1).alloc (.cells #[.slice A1 n c1] 31)
      have hCB : ∀ b, inB C b → w.heap.size ≤ b := fun b hb => (HO.out.inB hb).1
      have hO1 := HO1.out
      go_roundw
      case rel =>
        refine ⟨k + 1, by omega, by go_num, C5, c5, fun j => if j = k then (A1, n, c1, R.getD k []) else F j, rfl, ?_, ?_, ((HKP.out.trans K1.out).trans KA).step K5.out (fun b hb h => by have := hCB b h; omega)⟩
        · have e : ((List.range (k + 1)).map fun j => Value.slice (if j = k then (A1, n, c1, R.getD k []) else F j).1 (if j = k then (A1, n, c1, R.getD k []) else F j).2.1 (if j = k then (A1, n, c1, R.getD k []) else F j).2.2.1) =
              ((List.range k).map fun j => .slice (F j).1 (F j).2.1 (F j).2.2.1) ++ [.slice A1 n c1] := by
            rw [List.range_succ, List.map_append]
            congr 1
            · exact List.map_congr_left fun j hj => by rw [if_neg (by have := List.mem_range.1 hj; omega)]
            · simp
          rw [e]
          exact O5.out
        · intro i hi
          by_cases hik : i = k
          · subst hik
            simp only [if_true]
            refine ⟨trivial, trivial, hcap.1, hcap.2, ?_⟩
            have h1 := O1.out.kept KA (fun _ _ h => h)
            exact h1.kept K5.out (fun b hb h => h1.ne (hO1.kept KA (fun _ _ h => h)) (by decide) hb h)
          · simp only [if_neg hik]
            obtain ⟨g1, g2, g3, g4, g5⟩ := HROW.out i (by omega)
            have h1 := (g5.kept K1.out (fun _ _ h => h)).kept KA (fun _ _ h => h)
            exact ⟨g1, g2, g3, g4, h1.kept K5.out (fun b hb h => h1.ne (hO1.kept KA (fun _ _ h => h)) (by decide) hb h)⟩
      case measure => simp [intOf]; omega
    · obtain rfl : k = d := by omega
      go_wp2_with fail
      have hr2 := hr
      obtain ⟨C, co, F, rfl, _⟩ := hr2
      go_ret
      exact ⟨_, rfl, hr⟩
theorem rows_any {w : World} {lo hi g d n : Nat} {R : Cmp.Rows} {zs : List Int} {seed total : Int} {bs : Nat → Nat} {bt ct : Nat} (h : Sk w lo hi g d n R zs seed total bs bt ct) :
    Calls Try.prog 33 #[.pointer (some ⟨g, 0, none⟩)] w (RowsMade w d n R) :=
  (rows_rel h).mono fun e w' ⟨out, he, hr⟩ => by rw [he]; exact hr.done h.fine h.tt.2

theorem sameWords_any (zs : List Int) (A A2 : Option Addr) (m c c2 B B2 : Nat) (w : World) (hr : Rd w B A 1 m (zs.map (.int .u64))) (hr2 : Rd w B2 A2 1 m (zs.map (.int .u64))) (hm : m ≤ 140737488351232) :
    Calls Try.prog 67 #[.slice A m c, .slice A2 m c2] w fun e w' => e = .returned (.bool true) ∧ ∃ nq, w' = w.drewN nq := by
  have hl : zs.length = m := by simpa using hr.1
  have HL := hide hl
  have HR := hide hr
  have HR2 := hide hr2
  clear hl hr hr2
  go_enter Try.func67, Try.ntmps67
  go_wp2_with fail
  go_loopw [5, 13] (fun _ i wr => ∃ k : Nat, k ≤ m ∧ i = .int .i64 k ∧ ∃ nq, wr = w.drewN nq) (fun _ i _ => m - (intOf i).toNat)
  case atStart => exact ⟨0, by omega, rfl, 0, rfl⟩
  case round =>
    obtain ⟨k, hk, rfl, nq, rfl⟩ := hrel
    by_cases hlt : k < m
    · obtain ⟨b, off, rfl, _, hc⟩ := HR.out.2 (by omega)
      obtain ⟨b2, off2, rfl, _, hc2⟩ := HR2.out.2 (by omega)
      have c1 := hc k (.int .u64 (zs.getD k 0)) (by have := HL.out; simp [List.getD, show k < zs.length by omega])
      have c2' := hc2 k (.int .u64 (zs.getD k 0)) (by have := HL.out; simp [List.getD, show k < zs.length by omega])
      generalize zs.getD k 0 = p at *
      have hltI : (k : Int) < (m : Int) := by omega
      clear hc hc2
      go_wp2_with fail
      go_quiet (fail)
      go_wp2_with fail
      go_roundw
      case rel => exact ⟨k + 1, by omega, by go_num, _, rfl⟩
      case measure => simp [intOf]; omega
    · go_wp2_with fail
      go_ret
      exact ⟨rfl, nq, rfl⟩
theorem sameRows_any (m n : Nat) (F G : RowsF) (A A2 : Option Addr) (c c2 B B2 : Nat) (w : World) (hr : Rd w B A 1 m ((List.range m).map fun j => .slice (F j).1 (F j).2.1 (F j).2.2.1)) (hr2 : Rd w B2 A2 1 m ((List.range m).map fun j => .slice (G j).1 (G j).2.1 (G j).2.2.1))
    (hF : RowsRd w B .u64 m F) (hG : RowsRd w B2 .u64 m G) (he : ∀ i, i < m → (F i).2.1 = n ∧ (G i).2.1 = n ∧ (F i).2.2.2 = (G i).2.2.2) (hm : m ≤ 140737488351232) (hn : n ≤ 140737488351232) :
    Calls Try.prog 36 #[.slice A m c, .slice A2 m c2] w fun e w' => e = .returned (.bool true) ∧ ∃ nq, w' = w.drewN nq := by
  have HR := hide hr
  have HR2 := hide hr2
  have HF := hide hF
  have HG := hide hG
  have HE := hide he
  clear hr hr2 hF hG he
  go_enter Try.func36, Try.ntmps36
  go_wp2_with fail
  go_loopw [5, 13] (fun _ i wr => ∃ k : Nat, k ≤ m ∧ i = .int .i64 k ∧ ∃ nq, wr = w.drewN nq) (fun _ i _ => m - (intOf i).toNat)
  case atStart => exact ⟨0, by omega, rfl, 0, rfl⟩
  case round =>
    obtain ⟨k, hk, rfl, nq, rfl⟩ := hrel
    by_cases hlt : k < m
    · obtain ⟨b, off, rfl, _, hc⟩ := HR.out.2 (by omega)
      obtain ⟨b2, off2, rfl, _, hc2⟩ := HR2.out.2 (by omega)
      have c1 := hc k (.slice (F k).1 (F k).2.1 (F k).2.2.1) (by simp [hlt])
      have c2' := hc2 k (.slice (G k).1 (G k).2.1 (G k).2.2.1) (by simp [hlt])
      obtain ⟨e1, e2, e3⟩ := HE.out k hlt
      have g1 := (HF.out k hlt).1
      have g2 := (HG.out k hlt).1
      rw [e1] at c1 g1
      rw [e2] at c2' g2
      rw [← e3] at g2
      have HS := hide (fun q => sameWords_any (F k).2.2.2 (F k).1 (G k).1 n (F k).2.2.1 (G k).2.2.1 _ _ (w.drewN q) (g1.drewN q) (g2.drewN q) hn)
      generalize (F k).1 = a1 at *
      generalize (G k).1 = a2 at *
      generalize (F k).2.2.1 = x1 at *
      generalize (G k).2.2.1 = x2 at *
      have hltI : (k : Int) < (m : Int) := by omega
      clear hc hc2 e1 e2 e3 g1 g2
      go_wp2_with fail
      go_quiet ((go_at_call 67; first | exact quiet_more (HS.out _) | exact quiet_add (HS.out _)))
      go_wp2_with fail
      go_roundw
      case rel => exact ⟨k + 1, by omega, by go_num, _, rfl⟩
      case measure => simp [intOf]; omega
    · go_wp2_with fail
      go_ret
      exact ⟨rfl, nq, rfl⟩
end Go.Proofs.Ytaiopdipldaimaa
