/-
  arena.Fit: the class of a size. No conditions beyond those of the statement.
-/
import Derived.Test.YtgjlibecgkhocaaAp
set_option linter.unusedVariables false
set_option linter.unusedSimpArgs false
namespace Go.Proofs.Ytgjlibecgkhocaa
open Go.RowKit

/-- the first class for a size, or the number of classes -/
def fitK (l : List Cls) (size : Int) : Nat := l.findIdx (fun c => decide (size ≤ c.size))
theorem fitK_le (l : List Cls) (size : Int) : fitK l size ≤ l.length := List.findIdx_le_length
theorem fitK_lt {l : List Cls} {size : Int} {i : Nat} {c : Cls} (h : l[i]? = some c) (hs : size ≤ c.size) (hb : ∀ (j : Nat) (d : Cls), j < i → l[j]? = some d → d.size < size) : fitK l size = i := by
  obtain ⟨hi, he⟩ := List.getElem?_eq_some_iff.1 h
  unfold fitK
  rw [List.findIdx_eq hi]
  refine ⟨by rw [he]; simpa using hs, fun j hj => ?_⟩
  have := hb j _ hj (List.getElem?_eq_getElem (by omega))
  simp; omega
theorem fitK_no {l : List Cls} {size : Int} (hb : ∀ (j : Nat) (d : Cls), l[j]? = some d → d.size < size) : fitK l size = l.length := by
  unfold fitK
  rw [List.findIdx_eq_length]
  intro c hc
  obtain ⟨j, hj, he⟩ := List.getElem_of_mem hc
  have := hb j c (by rw [List.getElem?_eq_getElem hj, he])
  simp; omega

theorem fit1_any (x : Cls) (size : Int) (q : Nat) (W : World) (hb : W.cell? ⟨q, 0, none⟩ = some (.int .i64 size)) :
    Calls Try.prog 61 #[.agg (clsC x).toArray, .pointer (some ⟨q, 0, none⟩)] W fun e w' => e = .returned (.bool (decide (size ≤ x.size))) ∧ Keeps (fun _ => False) W w' := by
  have k1 := (Keeps.refl (fun _ => False) W).alloc (.cells (clsC x).toArray 89)
  have b1 := Blk.new W 89 (clsC x).toArray
  have q0 : (W.alloc (.cells (clsC x).toArray 89)).cell? ⟨W.heap.size, 0, none⟩ = some (.int .i64 x.size) := b1.cell 0
  have qb := k1.cell_some hb (fun h => h)
  have K1 := hide k1
  clear k1 b1
  unfold clsC at *
  go_enter Try.func61, Try.ntmps61
  go_wp2_with fail
  go_ret
  exact ⟨by simp, K1.out⟩

def idxV (k n : Nat) : Int := if k < n then (k : Int) else -1
theorem idxV_lt {k n : Nat} (h : k < n) : idxV k n = k := if_pos h
theorem idxV_no (n : Nat) : idxV n n = -1 := if_neg (by omega)
set_option maxRecDepth 100000 in
theorem idx_any (B : Nat) (A : Option Addr) (l : List Cls) (n cap : Nat) (size : Int) (q : Nat) (w : World) (hl : l.length = n) (ho : Own w B 89 4 A n cap (clsCs l)) (hb : w.cell? ⟨q, 0, none⟩ = some (.int .i64 size)) (hn : n ≤ 8) :
    Calls Try.prog 60 #[.slice A n cap, .func (.func 61) #[] #[.pointer (some ⟨q, 0, none⟩)]] w fun e w' => e = .returned (.int .i64 (idxV (fitK l size) n)) ∧ Keeps (fun _ => False) w w' := by
  have HO := hide ho
  have HB := hide hb
  have HL := hide hl
  obtain ⟨rv, hrv⟩ : ∃ rv, rv = idxV (fitK l size) n := ⟨_, rfl⟩
  rw [← hrv]
  have HRV := hide hrv
  clear ho hb hl hrv
  go_enter Try.func60, Try.ntmps60
  go_wp2_with fail
  go_loopw [5, 8] (fun _ iv wr => ∃ i : Nat, i ≤ n ∧ iv = .int .i64 i ∧ Hid (∀ (j : Nat) (d : Cls), j < i → l[j]? = some d → d.size < size) ∧ Hid (Keeps (fun _ => False) w wr)) (fun _ iv _ => n - (intOf iv).toNat)
  case atStart => exact ⟨0, by omega, rfl, hide (fun j d h => by omega), hide (Keeps.refl _ _)⟩
  case round =>
    obtain ⟨i, hi, rfl, HJ, KR⟩ := hrel
    by_cases hlt : i < n
    · have HLT : Hid (i + 1 ≤ n) := hlt
      have hil : i < l.length := by rw [HL.out]; exact hlt
      obtain ⟨x, hx⟩ : ∃ x, l[i]? = some x := ⟨l[i]'hil, by simp⟩
      obtain ⟨C, rfl, _⟩ := HO.out.some_ (by omega)
      have OR := hide (HO.out.kept KR.out (fun _ _ h => h))
      obtain ⟨g0, g1, g2, g3⟩ := clsCs_at hx
      have c0 := OR.out.cell (i * 4) (by omega)
      have c1 := OR.out.cell (i * 4 + 1) (by omega)
      have c2 := OR.out.cell (i * 4 + 2) (by omega)
      have c3 := OR.out.cell (i * 4 + 3) (by omega)
      rw [g0] at c0
      rw [g1] at c1
      rw [g2] at c2
      rw [g3] at c3
      have hiI : (i : Int) < (n : Int) := by omega
      have hi0 : (0 : Int) ≤ (i : Int) := by omega
      have HX := hide hx
      have HW := hide (fit1_any x size q wr (KR.out.cell_some HB.out (fun h => h)))
      unfold clsC at HW
      clear g0 g1 g2 g3 hil hx
      by_cases hs : size ≤ x.size
      · have e1 : decide (size ≤ x.size) = true := by simpa using hs
        rw [e1] at HW
        have HV : Hid (rv = i) := by
          show rv = i
          rw [HRV.out, fitK_lt HX.out hs HJ.out, idxV_lt hlt]
        go_wp2_with fail
        refine HW.out.mono ?_
        rintro e w2 ⟨rfl, k2⟩
        have K2 := hide (KR.out.trans k2)
        clear k2
        go_wp2_with fail
        go_ret
        exact ⟨ret_int HV.out.symm, K2.out⟩
      · have e1 : decide (size ≤ x.size) = false := by simpa using hs
        rw [e1] at HW
        have HS : Hid (x.size < size) := by show _ < _; omega
        go_wp2_with fail
        refine HW.out.mono ?_
        rintro e w2 ⟨rfl, k2⟩
        have K2 := hide (KR.out.trans k2)
        clear k2
        go_wp2_with fail
        go_roundw
        case rel =>
          refine ⟨i + 1, HLT.out, by go_num, hide (fun j d hj hd => ?_), K2⟩
          rcases Nat.lt_or_ge j i with h | h
          · exact HJ.out j d h hd
          · obtain rfl : j = i := by omega
            rw [HX.out] at hd; injection hd with hd; subst hd; exact HS.out
        case measure => have := HLT.out; simp [intOf]; omega
    · obtain rfl : i = n := by omega
      have HV : Hid (rv = -1) := by
        show rv = -1
        rw [HRV.out, fitK_no (fun j d hd => HJ.out j d (by rw [← HL.out]; exact (List.getElem?_eq_some_iff.1 hd).1) hd), HL.out, idxV_no]
      go_wp2_with fail
      go_ret
      exact ⟨ret_int HV.out.symm, KR.out⟩

/-- the class of a size that has one -/
theorem fit_ok (B a : Nat) (s : Ar) (i : Nat) (size : Int) (w : World) (h : IsAr w B a s) (hn : s.cls.length ≤ 8) (h1 : 1 ≤ size) (hk : fitK s.cls size = i) (hi : i < s.cls.length) :
    Calls Try.prog 54 #[.pointer (some ⟨a, 0, none⟩), .int .i64 size] w fun e w' => e = .returned (.tuple #[.int .i64 i, .int .i64 0]) ∧ Keeps (fun _ => False) w w' := by
  have k1 := (Keeps.refl (fun _ => False) w).alloc (.cells #[.int .i64 size] 3)
  have b1 := Blk.new w 3 #[.int .i64 size]
  have B2 := hide (h.blk.kept k1 (fun h => h))
  have c0 : (w.alloc (.cells #[.int .i64 size] 3)).cell? ⟨a, 0, none⟩ = some (.slice s.CA s.cls.length s.cap) := B2.out.cell 0
  have q0 : (w.alloc (.cells #[.int .i64 size] 3)).cell? ⟨w.heap.size, 0, none⟩ = some (.int .i64 size) := b1.cell 0
  have HI := hide (idx_any B s.CA s.cls s.cls.length s.cap size w.heap.size _ rfl (h.own.kept k1 (fun _ _ h => h)) q0 hn)
  rw [hk, idxV_lt hi] at HI
  have K1 := hide k1
  have e1 : decide (size < 1) = false := by simp; omega
  have e2 : decide ((i : Int) < 0) = false := by simp
  have hmf : ∀ (fn : Fn) (first cap : Array Value) (w : World), (Instr.makeFunc fn first cap).run Try.prog w = .ok (.func fn first cap) w := fun _ _ _ _ => rfl
  clear b1 k1 h hk
  go_enter Try.func54, Try.ntmps54
  go_wp2_with fail
  refine HI.out.mono ?_
  rintro e w2 ⟨rfl, k2⟩
  have q1 := k2.cell_some q0 (fun h => h)
  have K2 := hide (K1.out.trans k2)
  clear k2 q0 c0
  go_wp2_with fail
  go_ret2
  exact ⟨rfl, K2.out⟩
/-- a size that has no class -/
theorem fit_no (B a : Nat) (s : Ar) (size : Int) (w : World) (h : IsAr w B a s) (hn : s.cls.length ≤ 8) (h1 : size < 1 ∨ fitK s.cls size = s.cls.length) :
    Calls Try.prog 54 #[.pointer (some ⟨a, 0, none⟩), .int .i64 size] w fun e w' => e = .returned (.tuple #[.int .i64 0, .int .i64 1]) ∧ Keeps (fun _ => False) w w' := by
  have k1 := (Keeps.refl (fun _ => False) w).alloc (.cells #[.int .i64 size] 3)
  have b1 := Blk.new w 3 #[.int .i64 size]
  have B2 := hide (h.blk.kept k1 (fun h => h))
  have c0 : (w.alloc (.cells #[.int .i64 size] 3)).cell? ⟨a, 0, none⟩ = some (.slice s.CA s.cls.length s.cap) := B2.out.cell 0
  have q0 : (w.alloc (.cells #[.int .i64 size] 3)).cell? ⟨w.heap.size, 0, none⟩ = some (.int .i64 size) := b1.cell 0
  have HI := hide (idx_any B s.CA s.cls s.cls.length s.cap size w.heap.size _ rfl (h.own.kept k1 (fun _ _ h => h)) q0 hn)
  have hmf : ∀ (fn : Fn) (first cap : Array Value) (w : World), (Instr.makeFunc fn first cap).run Try.prog w = .ok (.func fn first cap) w := fun _ _ _ _ => rfl
  have K1 := hide k1
  by_cases hs : size < 1
  · have e1 : decide (size < 1) = true := by simpa using hs
    obtain ⟨rv, hrv⟩ : ∃ rv, rv = idxV (fitK s.cls size) s.cls.length := ⟨_, rfl⟩
    rw [← hrv] at HI
    clear b1 k1 h hrv h1
    go_enter Try.func54, Try.ntmps54
    go_wp2_with fail
    refine HI.out.mono ?_
    rintro e w2 ⟨rfl, k2⟩
    have q1 := k2.cell_some q0 (fun h => h)
    have K2 := hide (K1.out.trans k2)
    clear k2 q0 c0
    go_wp2_with fail
    go_ret2
    exact ⟨rfl, K2.out⟩
  · have e1 : decide (size < 1) = false := by simpa using hs
    rcases h1 with h1 | h1
    · exact absurd h1 hs
    rw [h1, idxV_no] at HI
    clear b1 k1 h hs h1
    go_enter Try.func54, Try.ntmps54
    go_wp2_with fail
    refine HI.out.mono ?_
    rintro e w2 ⟨rfl, k2⟩
    have q1 := k2.cell_some q0 (fun h => h)
    have K2 := hide (K1.out.trans k2)
    clear k2 q0 c0
    go_wp2_with fail
    go_ret2
    exact ⟨rfl, K2.out⟩
end Go.Proofs.Ytgjlibecgkhocaa
