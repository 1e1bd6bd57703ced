/-
  An arena from which slots are only taken: its states. No conditions beyond those of the statement.
-/
import Derived.Test.YtgjlibecgkhocaaAz
set_option linter.unusedVariables false
set_option linter.unusedSimpArgs false
namespace Go.Proofs.Ytgjlibecgkhocaa
open Go.RowKit Cfp
/-- in class j, m j slots are taken, and no other was ever taken -/
structure Fl (s : Ar) (l : List (Int × Int)) (C : Nat) (m : Nat → Nat) : Prop where
  hn : s.cls.length = l.length
  hC : s.CA = some ⟨C, 0, none⟩
  cl : ∀ (j : Nat) (x : Int × Int), l[j]? = some x → ∃ c : Cls, s.cls[j]? = some c ∧ c.size = x.1 ∧ c.count = x.2 ∧ c.slots.length = m j ∧ c.live = m j
  fr : ∀ j, j < l.length → s.free[j]? = some (-1)
theorem Fl.start (l : List (Int × Int)) (CA : Option Addr) (cap C : Nat) (hC : CA = some ⟨C, 0, none⟩) (hl : l.length ≤ 8) : Fl (parAr l l.length CA cap) l C (fun _ => 0) := by
  refine ⟨by simp [parAr], hC, fun j x hx => ⟨mkC x, by simp [parAr, hx], rfl, rfl, rfl, rfl⟩, fun j hj => ?_⟩
  show (List.replicate l.length (-1 : Int) ++ List.replicate (8 - l.length) 0)[j]? = some (-1)
  rw [List.getElem?_append_left (by simpa using hj)]
  simp [List.getElem?_replicate, hj]
/-- the sizes of the classes ascend -/
def Ups (l : List (Int × Int)) : Prop := ∀ (i j : Nat) (x y : Int × Int), i < j → l[i]? = some x → l[j]? = some y → x.1 < y.1
theorem Fl.fit {s : Ar} {l : List (Int × Int)} {C : Nat} {m : Nat → Nat} (h : Fl s l C m) (hu : Ups l) {i : Nat} {x : Int × Int} (hx : l[i]? = some x) : fitK s.cls x.1 = i := by
  obtain ⟨c, hc, hs, _⟩ := h.cl i x hx
  refine fitK_lt hc (by omega) (fun j d hj hd => ?_)
  have hjl : j < l.length := by have := (List.getElem?_eq_some_iff.1 hx).1; omega
  obtain ⟨y, hy⟩ : ∃ y, l[j]? = some y := ⟨l[j], by simp [hjl]⟩
  obtain ⟨d', hd', hs', _⟩ := h.cl j y hy
  rw [hd] at hd'
  injection hd' with hd'
  subst hd'
  have := hu j i y x hj hy hx
  omega
def plus1 (m : Nat → Nat) (i : Nat) : Nat → Nat := fun j => if j = i then m i + 1 else m j
theorem fl_alloc (B a : Nat) (s : Ar) (l : List (Int × Int)) (C : Nat) (m : Nat → Nat) (i : Nat) (x : Int × Int) (w : World) (h : IsAr w B a s) (f : Fl s l C m) (hl8 : l.length ≤ 8) (hu : Ups l) (hx : l[i]? = some x) (hx1 : 1 ≤ x.1) (hx2 : x.2 ≤ 65536) (hm : (m i : Int) < x.2) (hB : B ≤ w.heap.size) :
    Calls Try.prog 34 #[.pointer (some ⟨a, 0, none⟩), .int .i64 x.1] w fun e w' => e = .returned (.tuple #[.agg #[.int .i64 i, .int .i64 (m i), .int .i64 1], .int .i64 0]) ∧
      (∃ s', IsAr w' B a s' ∧ Fl s' l C (plus1 m i)) ∧ Keeps (ArS B w) w w' := by
  obtain ⟨c, hc, hs, hk, hsl, hlv⟩ := f.cl i x hx
  have hil := (List.getElem?_eq_some_iff.1 hx).1
  refine (alloc_new B a s i C c x.1 w h (by rw [f.hn]; exact hl8) hx1 (f.fit hu hx) ⟨f.hC, hc, f.fr i hil⟩ (by rw [hsl, hk]; exact hm) (by omega) (by omega) hB).mono ?_
  rintro e w' ⟨rfl, ⟨SA, sc, h2⟩, k2⟩
  rw [hsl]
  refine ⟨rfl, ⟨_, h2, by simp [f.hn], f.hC, fun j y hy => ?_, f.fr⟩, k2⟩
  by_cases e : j = i
  · subst e
    rw [hx] at hy
    injection hy with hy
    subst hy
    have hil2 : j < s.cls.length := (List.getElem?_eq_some_iff.1 hc).1
    exact ⟨{ c with SA := SA, sc := sc, slots := c.slots ++ [Slot.zero.taken], live := c.live + 1 }, by simp [hil2], hs, hk, by simp [hsl, plus1], by simp [hlv, plus1]⟩
  · obtain ⟨d, hd, h1, h2, h3, h4⟩ := f.cl j y hy
    refine ⟨d, ?_, h1, h2, by simp [plus1, e, h3], by simp [plus1, e, h4]⟩
    show (s.cls.set i _)[j]? = some d
    rw [List.getElem?_set, if_neg (fun q => e q.symm)]
    exact hd
theorem Fl.lives {s : Ar} {l : List (Int × Int)} {C : Nat} {m : Nat → Nat} (f : Fl s l C m) (zs : List Int) (hz : zs.length = l.length) (h : ∀ j (hj : j < zs.length), (m j : Int) = zs[j]) : livesC s.cls = zs.map (.int .i64) := by
  refine List.ext_getElem? fun j => ?_
  unfold livesC
  rw [List.getElem?_map, List.getElem?_map]
  by_cases hj : j < l.length
  · obtain ⟨c, hc, _, _, _, hlv⟩ := f.cl j _ (List.getElem?_eq_getElem hj)
    rw [hc, List.getElem?_eq_getElem (by omega)]
    simp only [Option.map_some]
    rw [hlv, h j (by omega)]
  · rw [List.getElem?_eq_none (by rw [f.hn]; omega), List.getElem?_eq_none (by omega)]
    rfl
theorem Fl.small {s : Ar} {l : List (Int × Int)} {C : Nat} {m : Nat → Nat} (f : Fl s l C m) (hl8 : l.length ≤ 8) (hb : ∀ x ∈ l, 1 ≤ x.1 ∧ x.1 ≤ 4096 ∧ 0 ≤ x.2 ∧ x.2 ≤ 65536) (h : ∀ j (hj : j < l.length), (m j : Int) ≤ l[j].2) : Small s := by
  refine ⟨by rw [f.hn]; exact hl8, fun j d hd => ?_⟩
  have hj : j < l.length := by rw [← f.hn]; exact (List.getElem?_eq_some_iff.1 hd).1
  obtain ⟨c, hc, hs, _, _, hlv⟩ := f.cl j _ (List.getElem?_eq_getElem hj)
  rw [hd] at hc
  injection hc with hc
  subst hc
  have h1 := hb l[j] (by simp)
  have h2 := h j hj
  omega
end Go.Proofs.Ytgjlibecgkhocaa
