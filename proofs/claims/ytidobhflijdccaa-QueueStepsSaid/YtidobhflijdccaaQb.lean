/-
  queue.New, Len and Until; the state of a queue with its pool and arena. No conditions beyond those of the statement.
-/
import Derived.Test.YtidobhflijdccaaQa
import Derived.Test.YtidobhflijdccaaBa
set_option linter.unusedVariables false
set_option linter.unusedSimpArgs false
namespace Go.Proofs.Ytidobhflijdccaa
open Go.RowKit Cfp
/-- a queue for n events, its pool for nk keys, its arena of the classes sh -/
structure Qu (w : World) (B q a p mb G n : Nat) (nk : Int) (sh : List (Int × Int)) (W R : List Wt) (E : List PE) (EA : Option Addr) (cap : Nat) (D : KD) (s : Ar) (L : Nat → List Nat) (M M2 : Int) : Prop where
  qu : IsQ w B q a p G n W R
  po : IsPo w B p a nk E EA cap mb D
  ar : IsAr w B a s
  iv : QInv sh W E s L D M M2
  hB : B ≤ w.heap.size
  kn : (cntU E : Int) ≤ nk
  n64 : n ≤ 64
section
variable {w w' : World} {B q a p mb G n : Nat} {nk : Int} {sh : List (Int × Int)} {W R : List Wt} {E : List PE} {EA : Option Addr} {cap : Nat} {D : KD} {s : Ar} {L : Nat → List Nat} {M M2 : Int}
theorem Qu.quiet (h : Qu w B q a p mb G n nk sh W R E EA cap D s L M M2) (k : Keeps (fun _ => False) w w') : Qu w' B q a p mb G n nk sh W R E EA cap D s L M M2 :=
  ⟨h.qu.quiet k, h.po.quiet k, h.ar.quiet k, h.iv, Nat.le_trans h.hB k.size, h.kn, h.n64⟩
theorem Qu.low {g : Nat} (h : Qu w B q a p mb G n nk sh W R E EA cap D s L M M2) (k : Keeps (· = g) w w') (hg : g < B) : Qu w' B q a p mb G n nk sh W R E EA cap D s L M M2 :=
  ⟨h.qu.kept k (fun e => by have := h.qu.le; omega) (fun e => by have := (h.qu.own.inB ((inB_some _ _ _).2 rfl)).1; omega), h.po.kept k (fun b e => .inl (by omega)), h.ar.kept k (fun b e => .inl (by omega)), h.iv, Nat.le_trans h.hB k.size, h.kn, h.n64⟩
theorem Qu.len (h : Qu w B q a p mb G n nk sh W R E EA cap D s L M M2) : W.length ≤ n := by have := h.qu.len; omega
end
theorem made_wt (n : Nat) : madeCells (Value.agg #[.int .i64 0, .int .i64 0, .int .u64 0, .int .i64 0, .int .i64 0, .int .i64 0, .int .i64 0]).cells (n * 7) = (wtCs (List.replicate n Wt.zero)).toArray := by
  apply Array.ext'
  refine List.ext_getElem? fun j => ?_
  rw [show (wtCs (List.replicate n Wt.zero)).toArray.toList = wtCs (List.replicate n Wt.zero) from rfl, show wtCs (List.replicate n Wt.zero) = (List.replicate n Wt.zero).flatMap wtC from rfl, flat_at wtC 7 (fun _ => rfl) (by omega)]
  have hs : (madeCells (Value.agg #[.int .i64 0, .int .i64 0, .int .u64 0, .int .i64 0, .int .i64 0, .int .i64 0, .int .i64 0]).cells (n * 7)).size = n * 7 := by simp [madeCells]
  by_cases hj : j < n * 7
  · have h1 : j / 7 < n := by omega
    rw [List.getElem?_replicate, if_pos h1]
    rw [Array.getElem?_toList, Array.getElem?_eq_getElem (by rw [hs]; exact hj)]
    have h2 : j % 7 < 7 := Nat.mod_lt _ (by omega)
    simp only [madeCells, Value.cells, Array.getElem_map, Array.getElem_range, Option.bind_some]
    show some (#[Value.int .i64 0, .int .i64 0, .int .u64 0, .int .i64 0, .int .i64 0, .int .i64 0, .int .i64 0][j % 7]!) = _
    generalize j % 7 = r at h2
    rcases r with _ | _ | _ | _ | _ | _ | _ | r
    all_goals first | rfl | omega
  · have h1 : ¬ j / 7 < n := by omega
    rw [List.getElem?_replicate, if_neg h1]
    rw [Array.getElem?_toList, Array.getElem?_eq_none (by omega)]
    rfl
theorem run_makeQ (n : Nat) (hn : n ≤ 64) (w : World) : (Instr.makeSlice 154 (.int .i64 (n : Int)) (.int .i64 (n : Int))).run Try.prog w = .ok (.slice (some ⟨w.heap.size, 0, none⟩) n n) (w.alloc (.cells (wtCs (List.replicate n Wt.zero)).toArray 158)) := by
  have hi : (Try.prog.info? 158).map (fun i => (i.zero, i.size, i.bytes)) = some (some (.agg #[.int .i64 0, .int .i64 0, .int .u64 0, .int .i64 0, .int .i64 0, .int .i64 0, .int .i64 0]), 7, 56) := by kernel_rfl
  obtain ⟨i, h1, h2, h3, h4⟩ := info_parts hi
  have hr := run_make (P := Try.prog) w 154 158 i (.agg #[.int .i64 0, .int .i64 0, .int .u64 0, .int .i64 0, .int .i64 0, .int .i64 0, .int .i64 0]) Try.underlying154 h1 h2 .i64 .i64 (n : Int) (n : Int) (by omega) (by omega) (by rw [h4]; omega) (by omega)
  rw [hr, Int.toNat_natCast, h3, made_wt]
/-- what New gives -/
def QNews (w : World) (a p n : Nat) (e : Ending) (w' : World) : Prop :=
  ∃ q G, e = .returned (.tuple #[.pointer (some ⟨q, 0, none⟩), .int .i64 0]) ∧ IsQ w' w.heap.size q a p G n [] (List.replicate n Wt.zero) ∧ Keeps (fun _ => False) w w'
theorem qnew_ok (w : World) (a p n : Nat) (h1 : 1 ≤ n) (h2 : n ≤ 64) :
    Calls Try.prog 55 #[.pointer (some ⟨a, 0, none⟩), .pointer (some ⟨p, 0, none⟩), .int .i64 n] w (QNews w a p n) := by
  have hmk := run_makeQ n h2
  have t1 : decide ((n : Int) < 1) = false := by simp; omega
  have t2 : decide ((64 : Int) < (n : Int)) = false := by simp; omega
  obtain ⟨C, hC⟩ : ∃ C, C = (wtCs (List.replicate n Wt.zero)).toArray := ⟨_, rfl⟩
  rw [← hC] at hmk
  have HC := hide hC
  clear hC
  go_enter Try.func55, Try.ntmps55
  go_wp2_with fail
  go_ret2
  have k1 := (Keeps.refl (fun _ => False) w).alloc (.cells C 158)
  have o1 := Own.new w w.heap.size 158 C n 7 (Nat.le_refl _) (by simp only [maxLen]; omega) (by rw [HC.out]; simp [wtCs_len])
  have k2 := (Keeps.refl (fun _ => False) (w.alloc (.cells C 158))).alloc (.cells #[.pointer (some ⟨a, 0, none⟩), .pointer (some ⟨p, 0, none⟩), .slice (some ⟨w.heap.size, 0, none⟩) n n, .int .i64 0] 156)
  refine ⟨w.heap.size + 1, w.heap.size, rfl, ⟨Nat.le_succ _, ?_, ?_⟩, k1.trans k2⟩
  · exact Blk.new_at _ _ _ _ (by simp)
  · have := o1.kept k2 (fun _ _ h => h)
    rw [HC.out] at this
    rw [HC.out]
    simpa using this
theorem qnew_bad (w : World) (a p : Nat) (n : Int) (h : n < 1 ∨ 64 < n) :
    Calls Try.prog 55 #[.pointer (some ⟨a, 0, none⟩), .pointer (some ⟨p, 0, none⟩), .int .i64 n] w fun e w' => e = .returned (.tuple #[.pointer none, .int .i64 1]) ∧ w' = w := by
  by_cases h1 : n < 1
  · have t1 : decide (n < 1) = true := by simpa using h1
    clear h h1
    go_enter Try.func55, Try.ntmps55
    go_wp2_with fail
    go_ret2
    exact ⟨rfl, rfl⟩
  · have t1 : decide (n < 1) = false := by simpa using h1
    have t2 : decide ((64 : Int) < n) = true := by simp; omega
    clear h h1
    go_enter Try.func55, Try.ntmps55
    go_wp2_with fail
    go_ret2
    exact ⟨rfl, rfl⟩
theorem qnew_nil1 (w : World) (p : Option Addr) (n : Int) : Calls Try.prog 55 #[.pointer none, .pointer p, .int .i64 n] w fun e w' => e = .returned (.tuple #[.pointer none, .int .i64 8]) ∧ w' = w := by
  go_enter Try.func55, Try.ntmps55
  go_wp2_with fail
  go_ret2
  exact ⟨rfl, rfl⟩
theorem qnew_nil2 (w : World) (a : Nat) (n : Int) : Calls Try.prog 55 #[.pointer (some ⟨a, 0, none⟩), .pointer none, .int .i64 n] w fun e w' => e = .returned (.tuple #[.pointer none, .int .i64 8]) ∧ w' = w := by
  go_enter Try.func55, Try.ntmps55
  go_wp2_with fail
  go_ret2
  exact ⟨rfl, rfl⟩
section
variable (w : World) (B q a p G n : Nat) (W R : List Wt)
theorem qlen_ok (h : IsQ w B q a p G n W R) : Calls Try.prog 56 #[.pointer (some ⟨q, 0, none⟩)] w fun e w' => e = .returned (.int .i64 (W.length : Int)) ∧ w' = w := by
  obtain ⟨⟨p0, p1, p2, p3⟩, hpw⟩ := h.cells
  clear h
  go_enter Try.func56, Try.ntmps56
  go_wp2_with fail
  go_ret
  exact ⟨rfl, rfl⟩
theorem qlen_nil : Calls Try.prog 56 #[.pointer none] w fun e w' => e = .returned (.int .i64 0) ∧ w' = w := by
  go_enter Try.func56, Try.ntmps56
  go_wp2_with fail
  go_ret
  exact ⟨rfl, rfl⟩
theorem quntil_nil (z : Int) : Calls Try.prog 62 #[.pointer none, .int .i64 z] w fun e w' => e = .returned (.int .i64 0) ∧ w' = w := by
  go_enter Try.func62, Try.ntmps62
  go_wp2_with fail
  go_ret
  exact ⟨rfl, rfl⟩
/-- the events up to the last one whose window is at most z -/
def untilN (z : Int) : List Wt → Nat
  | [] => 0
  | x :: l => if 0 < untilN z l then untilN z l + 1 else if x.win ≤ z then 1 else 0
theorem untilN_hit (z : Int) : ∀ (l : List Wt) (i : Nat) (x : Wt), l[i]? = some x → x.win ≤ z → (∀ (j : Nat) (y : Wt), i < j → l[j]? = some y → z < y.win) → untilN z l = i + 1
  | [], _, _, h, _, _ => by simp at h
  | y :: l, 0, x, h, hx, hj => by
    simp at h
    subst h
    have h0 : untilN z l = 0 := by
      have : ∀ (l : List Wt), (∀ (j : Nat) (y : Wt), l[j]? = some y → z < y.win) → untilN z l = 0 := by
        intro l
        induction l with
        | nil => intro _; rfl
        | cons y l ih =>
          intro h
          have h1 := ih (fun j u hu => h (j + 1) u (by simpa using hu))
          have h2 := h 0 y rfl
          simp only [untilN, h1]
          rw [if_neg (by omega), if_neg (by omega)]
      exact this l (fun j u hu => hj (j + 1) u (by omega) (by simpa using hu))
    simp [untilN, h0, hx]
  | y :: l, i + 1, x, h, hx, hj => by
    have := untilN_hit z l i x (by simpa using h) hx (fun j u h1 hu => hj (j + 1) u (by omega) (by simpa using hu))
    simp [untilN, this]
theorem untilN_no (z : Int) : ∀ (l : List Wt), (∀ (j : Nat) (y : Wt), l[j]? = some y → z < y.win) → untilN z l = 0
  | [], _ => rfl
  | y :: l, h => by
    have h1 := untilN_no z l (fun j u hu => h (j + 1) u (by simpa using hu))
    have h2 := h 0 y rfl
    simp only [untilN, h1]
    rw [if_neg (by omega), if_neg (by omega)]
set_option maxRecDepth 100000 in
theorem quntil_ok (h : IsQ w B q a p G n W R) (hn : n ≤ 64) (z : Int) : Calls Try.prog 62 #[.pointer (some ⟨q, 0, none⟩), .int .i64 z] w fun e w' => e = .returned (.int .i64 (untilN z W : Int)) ∧ w' = w := by
  obtain ⟨⟨p0, p1, p2, p3⟩, hpw⟩ := h.cells
  have H := hide h
  have hl := h.len
  obtain ⟨m, hm⟩ : ∃ m, m = W.length := ⟨_, rfl⟩
  obtain ⟨v, hv⟩ : ∃ v, v = untilN z W := ⟨_, rfl⟩
  rw [← hm] at p3 hl
  rw [← hv]
  have HM := hide hm
  have HV := hide hv
  have hmn : m ≤ n := by omega
  clear h hm hv hl
  go_enter Try.func62, Try.ntmps62
  go_wp2_with fail
  go_loop [5] (fun iv => ∃ k : Nat, k ≤ m ∧ iv = .int .i64 ((k : Int) - 1) ∧ Hid (∀ (j : Nat) (y : Wt), k ≤ j → W[j]? = some y → z < y.win)) (fun iv => (intOf iv + 1).toNat)
  case atStart => exact ⟨m, Nat.le_refl _, rfl, hide (fun j y h1 h2 => by have := (List.getElem?_eq_some_iff.1 h2).1; have := HM.out; omega)⟩
  case round =>
    obtain ⟨k, hk, rfl, HJ⟩ := hrel
    by_cases hk0 : 1 ≤ k
    · obtain ⟨i, rfl⟩ : ∃ i, k = i + 1 := ⟨k - 1, by omega⟩
      obtain ⟨x, hx⟩ : ∃ x, W[i]? = some x := ⟨W[i]'(by rw [← HM.out]; omega), by simp⟩
      have hx2 : (W ++ R)[i]? = some x := by rw [List.getElem?_append_left (List.getElem?_eq_some_iff.1 hx).1]; exact hx
      have c0 := (H.out.at hx2).1
      have HX := hide hx
      rw [show ((i + 1 : Nat) : Int) - 1 = (i : Int) by omega]
      have e1 : decide ((0 : Int) ≤ (i : Int)) = true := by simp
      have hiI : (i : Int) < (n : Int) := by omega
      have hi0 : (0 : Int) ≤ (i : Int) := by omega
      clear hx hx2
      by_cases hz : x.win ≤ z
      · have e2 : decide (x.win ≤ z) = true := by simpa using hz
        have hV : Hid (v = i + 1) := by show v = i + 1; rw [HV.out]; exact untilN_hit z W i x HX.out hz HJ.out
        clear hz
        go_wp2_with fail
        go_ret
        exact ⟨ret_int (by have := hV.out; omega), rfl⟩
      · have e2 : decide (x.win ≤ z) = false := by simpa using hz
        have HZ : Hid (z < x.win) := by show z < x.win; omega
        clear hz
        go_wp2_with fail
        go_round
        case rel =>
          refine ⟨i, by omega, rfl, hide (fun j y h1 h2 => ?_)⟩
          by_cases e : j = i
          · subst e
            rw [HX.out] at h2; injection h2 with h2; subst h2
            exact HZ.out
          · exact HJ.out j y (by omega) h2
        case measure => simp [intOf]
    · obtain rfl : k = 0 := by omega
      have e1 : decide ((0 : Int) ≤ (-1 : Int)) = false := by decide
      have hV : Hid (v = 0) := by show v = 0; rw [HV.out]; exact untilN_no z W (fun j y h2 => HJ.out j y (by omega) h2)
      rw [show ((0 : Nat) : Int) - 1 = -1 by omega]
      go_wp2_with fail
      go_ret
      exact ⟨ret_int (by have := hV.out; omega), rfl⟩
end
end Go.Proofs.Ytidobhflijdccaa
