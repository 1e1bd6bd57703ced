/-
  An arena in memory: the relation between the cells and a plain state, and how it is opened at one class.
-/
import Derived.Test.YtgjlibecgkhocaaMem2
set_option linter.unusedVariables false
set_option linter.unusedSimpArgs false
namespace Go.Proofs.Ytgjlibecgkhocaa
open Go.RowKit

section flat
variable {α : Type} (f : α → List Value) (m : Nat) (hf : ∀ x, (f x).length = m)
include hf
theorem flat_len (l : List α) : (l.flatMap f).length = l.length * m := by
  induction l with
  | nil => simp
  | cons x l ih => rw [List.flatMap_cons, List.length_append, hf, ih, List.length_cons, Nat.add_mul]; omega
theorem flat_get : ∀ (l : List α) (i k : Nat) (x : α), l[i]? = some x → k < m → (l.flatMap f)[i * m + k]? = (f x)[k]?
  | [], _, _, _, h, _ => by simp at h
  | y :: l, 0, k, x, h, hk => by
    simp at h
    subst h
    rw [List.flatMap_cons, Nat.zero_mul, Nat.zero_add, List.getElem?_append_left (by rw [hf]; exact hk)]
  | y :: l, i + 1, k, x, h, hk => by
    rw [List.flatMap_cons, List.getElem?_append_right (by rw [hf, Nat.add_mul]; omega), hf]
    have := flat_get l i k x (by simpa using h) hk
    rw [← this]
    congr 1
    rw [Nat.add_mul]; omega
theorem flat_set : ∀ (l : List α) (i k : Nat) (x y : α) (v : Value), l[i]? = some x → k < m → f y = (f x).set k v → (l.flatMap f).set (i * m + k) v = (l.set i y).flatMap f
  | [], _, _, _, _, _, h, _, _ => by simp at h
  | z :: l, 0, k, x, y, v, h, hk, hy => by
    simp at h
    subst h
    rw [List.flatMap_cons, Nat.zero_mul, Nat.zero_add, List.set_append_left _ _ (by rw [hf]; exact hk), List.set_cons_zero, List.flatMap_cons, hy]
  | z :: l, i + 1, k, x, y, v, h, hk, hy => by
    rw [List.flatMap_cons, List.set_append_right _ _ (by rw [hf, Nat.add_mul]; omega), hf, List.set_cons_succ, List.flatMap_cons]
    have := flat_set l i k x y v (by simpa using h) hk hy
    rw [← this]
    congr 2
    rw [Nat.add_mul]; omega
end flat

/-- a slot; D and dc say where its bytes lie -/
structure Slot where
  age : Int
  used : Bool
  next : Int
  D : Option Addr
  dc : Nat
  data : List UInt8
/-- a class; SA and sc say where its slots lie -/
structure Cls where
  size : Int
  count : Int
  SA : Option Addr
  sc : Nat
  slots : List Slot
  live : Int
/-- an arena; CA and cap say where its classes lie -/
structure Ar where
  CA : Option Addr
  cap : Nat
  cls : List Cls
  free : List Int
  faults : Int
def slotC (x : Slot) : List Value := [.int .i64 x.age, .bool x.used, .int .i64 x.next, .slice x.D x.data.length x.dc]
def slotCs (l : List Slot) : List Value := l.flatMap slotC
def clsC (c : Cls) : List Value := [.int .i64 c.size, .int .i64 c.count, .slice c.SA c.slots.length c.sc, .int .i64 c.live]
def clsCs (l : List Cls) : List Value := l.flatMap clsC
def arC (s : Ar) : List Value := .slice s.CA s.cls.length s.cap :: (s.free.map (.int .i64) ++ [.int .i64 s.faults])
theorem slotCs_len (l : List Slot) : (slotCs l).length = l.length * 4 := flat_len _ 4 (fun _ => rfl) l
theorem clsCs_len (l : List Cls) : (clsCs l).length = l.length * 4 := flat_len _ 4 (fun _ => rfl) l
theorem slotCs_at {l : List Slot} {i : Nat} {x : Slot} (h : l[i]? = some x) : (slotCs l)[i * 4]? = some (.int .i64 x.age) ∧ (slotCs l)[i * 4 + 1]? = some (.bool x.used) ∧ (slotCs l)[i * 4 + 2]? = some (.int .i64 x.next) ∧ (slotCs l)[i * 4 + 3]? = some (.slice x.D x.data.length x.dc) :=
  ⟨flat_get _ 4 (fun _ => rfl) l i 0 x h (by omega), flat_get _ 4 (fun _ => rfl) l i 1 x h (by omega), flat_get _ 4 (fun _ => rfl) l i 2 x h (by omega), flat_get _ 4 (fun _ => rfl) l i 3 x h (by omega)⟩
theorem clsCs_at {l : List Cls} {i : Nat} {x : Cls} (h : l[i]? = some x) : (clsCs l)[i * 4]? = some (.int .i64 x.size) ∧ (clsCs l)[i * 4 + 1]? = some (.int .i64 x.count) ∧ (clsCs l)[i * 4 + 2]? = some (.slice x.SA x.slots.length x.sc) ∧ (clsCs l)[i * 4 + 3]? = some (.int .i64 x.live) :=
  ⟨flat_get _ 4 (fun _ => rfl) l i 0 x h (by omega), flat_get _ 4 (fun _ => rfl) l i 1 x h (by omega), flat_get _ 4 (fun _ => rfl) l i 2 x h (by omega), flat_get _ 4 (fun _ => rfl) l i 3 x h (by omega)⟩
theorem slotCs_set {l : List Slot} {i k : Nat} {x y : Slot} {v : Value} (h : l[i]? = some x) (hk : k < 4) (hy : slotC y = (slotC x).set k v) : (slotCs l).set (i * 4 + k) v = slotCs (l.set i y) := flat_set _ 4 (fun _ => rfl) l i k x y v h hk hy
theorem clsCs_set {l : List Cls} {i k : Nat} {x y : Cls} {v : Value} (h : l[i]? = some x) (hk : k < 4) (hy : clsC y = (clsC x).set k v) : (clsCs l).set (i * 4 + k) v = clsCs (l.set i y) := flat_set _ 4 (fun _ => rfl) l i k x y v h hk hy
theorem slotCs_app (l m : List Slot) : slotCs (l ++ m) = slotCs l ++ slotCs m := List.flatMap_append
theorem clsCs_app (l m : List Cls) : clsCs (l ++ m) = clsCs l ++ clsCs m := List.flatMap_append

/-- the arena in block a holds s, but for what lies behind the slots of the classes X; all that is written lies at B or above -/
structure IsArH (w : World) (B a : Nat) (s : Ar) (X : Nat → Prop) : Prop where
  le : B ≤ a
  blk : Blk w a 86 (arC s).toArray
  own : Own w B 89 4 s.CA s.cls.length s.cap (clsCs s.cls)
  sl : ∀ (i : Nat) (c : Cls), ¬ X i → s.cls[i]? = some c → Own w B 93 4 c.SA c.slots.length c.sc (slotCs c.slots)
  da : ∀ (i : Nat) (c : Cls), ¬ X i → s.cls[i]? = some c → ∀ (j : Nat) (x : Slot), c.slots[j]? = some x → Own w B 5 1 x.D x.data.length x.dc (x.data.map by8)
  dj : ∀ (i j : Nat) (c d : Cls), ¬ X i → ¬ X j → i ≠ j → s.cls[i]? = some c → s.cls[j]? = some d → ∀ b, inB c.SA b → ¬ inB d.SA b
  fl : s.free.length = 8
/-- the arena in block a holds s -/
def IsAr (w : World) (B a : Nat) (s : Ar) : Prop := IsArH w B a s (fun _ => False)
/-- what stands behind one class -/
structure Behind (w : World) (B : Nat) (s : Ar) (i : Nat) (c : Cls) : Prop where
  sl : Own w B 93 4 c.SA c.slots.length c.sc (slotCs c.slots)
  da : ∀ (j : Nat) (x : Slot), c.slots[j]? = some x → Own w B 5 1 x.D x.data.length x.dc (x.data.map by8)
  dj : ∀ (j : Nat) (d : Cls), j ≠ i → s.cls[j]? = some d → ∀ b, inB c.SA b → ¬ inB d.SA b
section
variable {w w' : World} {B a : Nat} {s : Ar} {X : Nat → Prop} {S : Nat → Prop}
theorem IsAr.open_ (h : IsAr w B a s) {i : Nat} {c : Cls} (hc : s.cls[i]? = some c) : IsArH w B a s (· = i) ∧ Behind w B s i c :=
  ⟨⟨h.le, h.blk, h.own, fun j d hj hd => h.sl j d (fun e => e) hd, fun j d hj hd => h.da j d (fun e => e) hd, fun j k d e hj hk => h.dj j k d e (fun e => e) (fun e => e), h.fl⟩,
   ⟨h.sl i c (fun e => e) hc, h.da i c (fun e => e) hc, fun j d hj hd => h.dj i j c d (fun e => e) (fun e => e) (fun e => hj e.symm) hc hd⟩⟩
theorem IsArH.close {i : Nat} {c : Cls} (h : IsArH w B a s (· = i)) (hc : s.cls[i]? = some c) (b : Behind w B s i c) : IsAr w B a s := by
  refine ⟨h.le, h.blk, h.own, fun j d _ hd => ?_, fun j d _ hd => ?_, fun j k d e _ _ hjk hd he => ?_, h.fl⟩
  · by_cases e : j = i
    · subst e; rw [hc] at hd; injection hd with hd; subst hd; exact b.sl
    · exact h.sl j d e hd
  · by_cases e : j = i
    · subst e; rw [hc] at hd; injection hd with hd; subst hd; exact b.da
    · exact h.da j d e hd
  · by_cases e1 : j = i
    · subst e1; rw [hc] at hd; injection hd with hd; subst hd; exact b.dj k e (fun e => hjk e.symm) he
    · by_cases e2 : k = i
      · subst e2; rw [hc] at he; injection he with he; subst he
        exact fun q h1 h2 => b.dj j d e1 hd q h2 h1
      · exact h.dj j k d e e1 e2 hjk hd he
theorem blk_type {g : Nat} {t t' : TypeId} {cs cs' : Array Value} (h : Blk w g t cs) (h' : Blk w g t' cs') : t = t' := by
  have := h.symm.trans h'
  injection this with this
  injection this with _ this
/-- block b is none of the arena's: by its type, or since it lies below -/
def Other (w : World) (B b : Nat) : Prop := b < B ∨ ∃ cs t, Blk w b t cs ∧ t ≠ 86 ∧ t ≠ 89 ∧ t ≠ 93 ∧ t ≠ 5
theorem Other.own {e : TypeId} {sz n c b : Nat} {A : Option Addr} {xs : List Value} (h : Other w B b) (o : Own w B e sz A n c xs) (he : e = 89 ∨ e = 93 ∨ e = 5) : ¬ inB A b := by
  intro hb
  rcases h with h | ⟨cs, t, h1, h2, h3, h4, h5⟩
  · have := o.inB hb; omega
  · obtain ⟨cs', hb'⟩ := o.blk hb
    have := blk_type h1 hb'
    rcases he with rfl | rfl | rfl
    · exact h3 this
    · exact h4 this
    · exact h5 this
theorem Other.ar {cs : Array Value} (h : Other w B a) (ha : B ≤ a) (o : Blk w a 86 cs) : False := by
  rcases h with h | ⟨cs, t, h1, h2, _⟩
  · omega
  · exact h2 (blk_type h1 o)
theorem IsArH.kept (h : IsArH w B a s X) (k : Keeps S w w') (hs : ∀ b, S b → Other w B b ∨ ((∃ cs, Blk w b 93 cs) ∧ ∀ j d, ¬ X j → s.cls[j]? = some d → ¬ inB d.SA b)) : IsArH w' B a s X := by
  refine ⟨h.le, h.blk.kept k (fun hS => ?_), h.own.kept k (fun b hb hS => ?_), fun j d hj hd => (h.sl j d hj hd).kept k (fun b hb hS => ?_), fun j d hj hd q x hx => (h.da j d hj hd q x hx).kept k (fun b hb hS => ?_), h.dj, h.fl⟩
  · rcases hs a hS with o | ⟨⟨cs, o⟩, _⟩
    · exact o.ar h.le h.blk
    · exact absurd (blk_type h.blk o) (by decide)
  · rcases hs b hS with o | ⟨⟨cs, o⟩, _⟩
    · exact o.own h.own (.inl rfl) hb
    · obtain ⟨cs', hb'⟩ := h.own.blk hb
      exact absurd (blk_type hb' o) (by decide)
  · rcases hs b hS with o | ⟨_, o⟩
    · exact o.own (h.sl j d hj hd) (.inr (.inl rfl)) hb
    · exact o j d hj hd hb
  · rcases hs b hS with o | ⟨⟨cs, o⟩, _⟩
    · exact o.own (h.da j d hj hd q x hx) (.inr (.inr rfl)) hb
    · obtain ⟨cs', hb'⟩ := (h.da j d hj hd q x hx).blk hb
      exact absurd (blk_type hb' o) (by decide)
theorem IsAr.kept (h : IsAr w B a s) (k : Keeps S w w') (hs : ∀ b, S b → Other w B b) : IsAr w' B a s := IsArH.kept h k (fun b hb => .inl (hs b hb))
theorem IsAr.quiet (h : IsAr w B a s) (k : Keeps (fun _ => False) w w') : IsAr w' B a s := h.kept k (fun _ h => h.elim)
theorem IsArH.quiet (h : IsArH w B a s X) (k : Keeps (fun _ => False) w w') : IsArH w' B a s X := h.kept k (fun _ h => h.elim)
theorem Behind.kept {i : Nat} {c : Cls} (h : Behind w B s i c) (k : Keeps S w w') (hs : ∀ b, S b → Other w B b ∨ ∃ cs t, Blk w b t cs ∧ t ≠ 93 ∧ t ≠ 5) : Behind w' B s i c := by
  refine ⟨h.sl.kept k (fun b hb hS => ?_), fun j x hx => (h.da j x hx).kept k (fun b hb hS => ?_), h.dj⟩
  · rcases hs b hS with o | ⟨cs, t, o, h1, h2⟩
    · exact o.own h.sl (.inr (.inl rfl)) hb
    · obtain ⟨cs', hb'⟩ := h.sl.blk hb
      exact h1 (blk_type o hb')
  · rcases hs b hS with o | ⟨cs, t, o, h1, h2⟩
    · exact o.own (h.da j x hx) (.inr (.inr rfl)) hb
    · obtain ⟨cs', hb'⟩ := (h.da j x hx).blk hb
      exact h2 (blk_type o hb')
theorem Behind.quiet {i : Nat} {c : Cls} (h : Behind w B s i c) (k : Keeps (fun _ => False) w w') : Behind w' B s i c := h.kept k (fun _ h => h.elim)
/-- a cell of the arena's own block is written -/
theorem IsArH.arena (h : IsArH w B a s X) (s' : Ar) (j : Nat) (v : Value) (h1 : s'.CA = s.CA) (h2 : s'.cls = s.cls) (h3 : s'.cap = s.cap) (h4 : s'.free.length = 8) (hv : arC s' = (arC s).set j v) : IsArH (w.setCell ⟨a, j, none⟩ v) B a s' X := by
  have k : Keeps (· = a) w (w.setCell ⟨a, j, none⟩ v) := Keeps.setCell (S := (· = a)) (p := ⟨a, j, none⟩) (Keeps.refl _ _) (.inl rfl) _
  have hno : ∀ {e sz n c : Nat} {A : Option Addr} {xs : List Value}, Own w B e sz A n c xs → 86 ≠ e → ∀ b, inB A b → ¬ b = a := fun o he b hb hS => by
    obtain ⟨cs, hb'⟩ := o.blk hb
    rw [hS] at hb'
    exact he (blk_type h.blk hb')
  refine ⟨h.le, ?_, ?_, ?_, ?_, ?_, h4⟩
  · have := h.blk.set j v
    rw [List.setIfInBounds_toArray, ← hv] at this
    exact this
  · rw [h1, h2, h3]; exact h.own.kept k (hno h.own (by decide))
  · rw [h2]; exact fun i c hi hc => (h.sl i c hi hc).kept k (hno (h.sl i c hi hc) (by decide))
  · rw [h2]; exact fun i c hi hc q x hx => (h.da i c hi hc q x hx).kept k (hno (h.da i c hi hc q x hx) (by decide))
  · rw [h2]; exact h.dj
/-- a cell of class i is written, the class is open -/
theorem IsArH.cls_ {C i k : Nat} {c y : Cls} (h : IsArH w B a s (· = i)) (hC : s.CA = some ⟨C, 0, none⟩) (hc : s.cls[i]? = some c) (hk : k < 4) (v : Value) (hy : clsC y = (clsC c).set k v) :
    IsArH (w.setCell ⟨C, i * 4 + k, none⟩ v) B a { s with cls := s.cls.set i y } (· = i) := by
  have kk : Keeps (· = C) w (w.setCell ⟨C, i * 4 + k, none⟩ v) := Keeps.setCell (S := (· = C)) (p := ⟨C, i * 4 + k, none⟩) (Keeps.refl _ _) (.inl rfl) _
  have ho := h.own
  rw [hC] at ho
  have hCb : ∃ cs, Blk w C 89 cs := ho.blk ⟨_, rfl, rfl⟩
  obtain ⟨csC, hCb⟩ := hCb
  have hno : ∀ {e sz n c : Nat} {A : Option Addr} {xs : List Value}, Own w B e sz A n c xs → 89 ≠ e → ∀ b, inB A b → ¬ b = C := fun o he b hb hS => by
    obtain ⟨cs, hb'⟩ := o.blk hb
    rw [hS] at hb'
    exact he (blk_type hCb hb')
  have hset : ∀ j, j ≠ i → ∀ d : Cls, (s.cls.set i y)[j]? = some d → s.cls[j]? = some d := fun j hj d hd => by
    rw [List.getElem?_set, if_neg (fun e => hj e.symm)] at hd; exact hd
  refine ⟨h.le, ?_, ?_, ?_, ?_, ?_, h.fl⟩
  · have := h.blk.kept kk (fun e => absurd (blk_type h.blk (e ▸ hCb)) (by decide))
    simpa [arC] using this
  · have := ho.store (i * 4 + k) v
    rw [clsCs_set hc hk hy] at this
    simpa [hC] using this
  · exact fun j d hj hd => (h.sl j d hj (hset j hj d hd)).kept kk (hno (h.sl j d hj (hset j hj d hd)) (by decide))
  · exact fun j d hj hd q x hx => (h.da j d hj (hset j hj d hd) q x hx).kept kk (hno (h.da j d hj (hset j hj d hd) q x hx) (by decide))
  · exact fun j q d e hj hq hjq hd he => h.dj j q d e hj hq hjq (hset j hj d hd) (hset q hq e he)
end
end Go.Proofs.Ytgjlibecgkhocaa
