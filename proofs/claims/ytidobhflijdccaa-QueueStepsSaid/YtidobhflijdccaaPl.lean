/-
  A pool of keys: its entries and its map, and how changes of them read. No conditions beyond those of the statement.
-/
import Derived.Test.YtidobhflijdccaaHd
import Derived.Maps.OwnSet
import Derived.Maps.OwnOps
set_option linter.unusedVariables false
set_option linter.unusedSimpArgs false
namespace Go.Proofs.Ytidobhflijdccaa
open Go.RowKit Cfp
open Go.Maps (Tidy)
/-- an entry; the key is what its slot holds -/
structure PE where
  h : Hd
  key : List UInt8
  users : Int
def PE.zero : PE := ⟨(0, 0, 0), [], 0⟩
def peC (e : PE) : List Value := [.int .i64 e.h.1, .int .i64 e.h.2.1, .int .i64 e.h.2.2, .int .i64 e.users]
def peCs (l : List PE) : List Value := l.flatMap peC
theorem peCs_len (l : List PE) : (peCs l).length = l.length * 4 := flat_len _ 4 (fun _ => rfl) l
theorem peCs_at {l : List PE} {i : Nat} {x : PE} (h : l[i]? = some x) : (peCs l)[i * 4]? = some (.int .i64 x.h.1) ∧ (peCs l)[i * 4 + 1]? = some (.int .i64 x.h.2.1) ∧ (peCs l)[i * 4 + 2]? = some (.int .i64 x.h.2.2) ∧ (peCs l)[i * 4 + 3]? = some (.int .i64 x.users) :=
  ⟨flat_get _ 4 (fun _ => rfl) l i 0 x h (by omega), flat_get _ 4 (fun _ => rfl) l i 1 x h (by omega), flat_get _ 4 (fun _ => rfl) l i 2 x h (by omega), flat_get _ 4 (fun _ => rfl) l i 3 x h (by omega)⟩
theorem peCs_app (l m : List PE) : peCs (l ++ m) = peCs l ++ peCs m := List.flatMap_append
theorem peCs_users {l : List PE} {i : Nat} {x : PE} (h : l[i]? = some x) (u : Int) : (peCs l).set (i * 4 + 3) (.int .i64 u) = peCs (l.set i { x with users := u }) := flat_set peC 4 (fun _ => rfl) l i 3 x { x with users := u } (.int .i64 u) h (by omega) rfl
theorem peCs_one (l : List PE) : ∀ u ∈ peCs l, u.oneCell' = true := by
  intro u hu
  unfold peCs at hu
  rw [List.mem_flatMap] at hu
  obtain ⟨c, _, hu⟩ := hu
  simp [peC] at hu
  rcases hu with rfl | rfl | rfl | rfl <;> rfl
/-- four cells are written -/
theorem peCs_all {l : List PE} {i : Nat} {x : PE} (h : l[i]? = some x) (y : PE) :
    ((((peCs l).set (i * 4) (.int .i64 y.h.1)).set (i * 4 + 1) (.int .i64 y.h.2.1)).set (i * 4 + 2) (.int .i64 y.h.2.2)).set (i * 4 + 3) (.int .i64 y.users) = peCs (l.set i y) := by
  have hi := (List.getElem?_eq_some_iff.1 h).1
  have key : ∀ u, (l.set i u)[i]? = some u := fun u => by simp [hi]
  have e1 : (peCs l).set (i * 4) (.int .i64 y.h.1) = peCs (l.set i { x with h := (y.h.1, x.h.2.1, x.h.2.2) }) := flat_set peC 4 (fun _ => rfl) l i 0 x { x with h := (y.h.1, x.h.2.1, x.h.2.2) } (.int .i64 y.h.1) h (by omega) rfl
  have e2 : ∀ a b c u v w : PE, (l.set i a).set i b = l.set i b := fun a b _ _ _ _ => by simp
  rw [e1]
  have f2 := flat_set peC 4 (fun _ => rfl) (l.set i { x with h := (y.h.1, x.h.2.1, x.h.2.2) }) i 1 _ { x with h := (y.h.1, y.h.2.1, x.h.2.2) } (.int .i64 y.h.2.1) (key _) (by omega) rfl
  have f3 := flat_set peC 4 (fun _ => rfl) (l.set i { x with h := (y.h.1, y.h.2.1, x.h.2.2) }) i 2 _ { x with h := (y.h.1, y.h.2.1, y.h.2.2) } (.int .i64 y.h.2.2) (key _) (by omega) rfl
  have f4 := flat_set peC 4 (fun _ => rfl) (l.set i { x with h := (y.h.1, y.h.2.1, y.h.2.2) }) i 3 _ y (.int .i64 y.users) (key _) (by omega) rfl
  rw [List.set_set] at f2 f3 f4
  unfold peCs
  rw [f2, f3, f4]
theorem elemPE : ElemOf Try.prog 141 147 4 32 := ElemOf.mk' (z := .agg #[.int .i64 0, .int .i64 0, .int .i64 0, .int .i64 0]) Try.underlying141 (by kernel_rfl) rfl (by omega)

/-- how many entries are in use -/
def cntU : List PE → Nat
  | [] => 0
  | e :: l => (if 0 < e.users then 1 else 0) + cntU l
theorem cntU_le : ∀ l : List PE, cntU l ≤ l.length
  | [] => Nat.le_refl _
  | e :: l => by have := cntU_le l; simp only [cntU, List.length_cons]; split <;> omega
theorem cntU_set : ∀ (l : List PE) (k : Nat) (x y : PE), l[k]? = some x → cntU (l.set k y) + (if 0 < x.users then 1 else 0) = cntU l + (if 0 < y.users then 1 else 0)
  | [], _, _, _, h => by simp at h
  | z :: l, 0, x, y, h => by
    simp at h
    subst h
    simp only [List.set_cons_zero, cntU]
    omega
  | z :: l, k + 1, x, y, h => by
    have := cntU_set l k x y (by simpa using h)
    simp only [List.set_cons_succ, cntU]
    omega
theorem cntU_app (l m : List PE) : cntU (l ++ m) = cntU l + cntU m := by
  induction l with
  | nil => simp [cntU]
  | cons x l ih => simp only [List.cons_append, cntU, ih]; omega

abbrev KD := DataW Unit
def kzero : KD := .lit (.int .i64 0)
def kval (id : Nat) : KD := .lit (.int .i64 (id : Int))
/-- what the map of a pool says -/
structure Says (E : List PE) (D : KD) : Prop where
  tidy : Tidy D
  yes : ∀ (id : Nat) (e : PE), E[id]? = some e → 0 < e.users → D.atKey (.string e.key) kzero = kval id ∧ Maps.has D (.string e.key) = true
  no : ∀ key, (∀ (id : Nat) (e : PE), E[id]? = some e → 0 < e.users → e.key ≠ key) → Maps.has D (.string key) = false
  sz : Maps.size D = cntU E
/-- A pool's invariant; M bounds users and entries. -/
structure PInv (E : List PE) (s : Ar) (D : KD) (M : Int) : Prop where
  zero : ∃ e, E[0]? = some e ∧ e.users = 0
  us : ∀ (id : Nat) (e : PE), E[id]? = some e → 0 ≤ e.users ∧ e.users ≤ M
  lv : ∀ (id : Nat) (e : PE), E[id]? = some e → 0 < e.users → LV s e.h.1 e.h.2.1 e.h.2.2 e.key ∧ 1 ≤ e.key.length ∧ e.key.length ≤ 255
  un : ∀ (id id' : Nat) (e e' : PE), E[id]? = some e → E[id']? = some e' → 0 < e.users → 0 < e'.users → e.key = e'.key → id = id'
  says : Says E D
  len : (E.length : Int) ≤ M + 1
theorem PInv.more {E : List PE} {s : Ar} {D : KD} {M M' : Int} (h : PInv E s D M) (hm : M ≤ M') : PInv E s D M' :=
  ⟨h.zero, fun id e he => by have := h.us id e he; omega, h.lv, h.un, h.says, by have := h.len; omega⟩
/-- the arena changes; the pool's slots stay -/
theorem PInv.arena {E : List PE} {s s' : Ar} {D : KD} {M : Int} (h : PInv E s D M) (hl : ∀ (id : Nat) (e : PE), E[id]? = some e → 0 < e.users → LV s' e.h.1 e.h.2.1 e.h.2.2 e.key) : PInv E s' D M :=
  ⟨h.zero, h.us, fun id e he hu => ⟨hl id e he hu, (h.lv id e he hu).2⟩, h.un, h.says, h.len⟩
/-- used entries lie in slots of their own -/
theorem PInv.apart {E : List PE} {s : Ar} {D : KD} {M : Int} (h : PInv E s D M) {id id' : Nat} {e e' : PE} (he : E[id]? = some e) (he' : E[id']? = some e') (hu : 0 < e.users) (hu' : 0 < e'.users) (h1 : e.h.1 = e'.h.1) (h2 : e.h.2.1 = e'.h.2.1) : id = id' := by
  have a := (h.lv id e he hu).1
  have b := (h.lv id' e' he' hu').1
  rw [← h1, ← h2] at b
  exact h.un id id' e e' he he' hu hu' (a.one b).2
theorem get_set {α : Type} {l : List α} {i j : Nat} {y z : α} (h : (l.set i y)[j]? = some z) : (j = i ∧ z = y ∧ i < l.length) ∨ (j ≠ i ∧ l[j]? = some z) := by
  rw [List.getElem?_set] at h
  split at h
  · next e =>
    subst e
    split at h
    · next hl => injection h with h; exact .inl ⟨rfl, h.symm, hl⟩
    · simp at h
  · next e => exact .inr ⟨fun q => e q.symm, h⟩
/-- the users of a used entry change, and it stays in use -/
theorem PInv.users {E : List PE} {s : Ar} {D : KD} {M M' : Int} (h : PInv E s D M) {id : Nat} {x : PE} (hx : E[id]? = some x) (hu : 0 < x.users) (u : Int) (h0 : 0 < u) (h1 : u ≤ M') (hm : M ≤ M') : PInv (E.set id { x with users := u }) s D M' := by
  have hx0 : id ≠ 0 := fun e => by subst e; obtain ⟨e, h2, h3⟩ := h.zero; rw [hx] at h2; injection h2 with h2; subst h2; omega
  have back : ∀ {j : Nat} {e : PE}, (E.set id { x with users := u })[j]? = some e → ∃ e', E[j]? = some e' ∧ e'.h = e.h ∧ e'.key = e.key ∧ (0 < e.users ↔ 0 < e'.users) := fun {j e} he => by
    rcases get_set he with ⟨rfl, rfl, _⟩ | ⟨_, h3⟩
    · exact ⟨x, hx, rfl, rfl, ⟨fun _ => hu, fun _ => h0⟩⟩
    · exact ⟨e, h3, rfl, rfl, Iff.rfl⟩
  refine ⟨?_, fun j e he => ?_, fun j e he hu2 => ?_, fun j j' e e' he he' hu1 hu2 hk => ?_, ⟨h.says.tidy, fun j e he hu1 => ?_, fun key hno => ?_, ?_⟩, by have := h.len; simp; omega⟩
  · obtain ⟨e, h2, h3⟩ := h.zero
    exact ⟨e, by rw [List.getElem?_set, if_neg hx0]; exact h2, h3⟩
  · rcases get_set he with ⟨rfl, rfl, _⟩ | ⟨_, h3⟩
    · dsimp only; omega
    · have := h.us j e h3; omega
  · obtain ⟨e', h3, h4, h5, h6⟩ := back he
    have := h.lv j e' h3 (h6.1 hu2)
    rw [h4, h5] at this
    exact this
  · obtain ⟨f, h3, h4, h5, h6⟩ := back he
    obtain ⟨f', i3, i4, i5, i6⟩ := back he'
    exact h.un j j' f f' h3 i3 (h6.1 hu1) (i6.1 hu2) (by rw [h5, i5, hk])
  · obtain ⟨f, h3, h4, h5, h6⟩ := back he
    have := h.says.yes j f h3 (h6.1 hu1)
    rw [h5] at this
    exact this
  · refine h.says.no key (fun j e he hu1 hk => ?_)
    by_cases e1 : j = id
    · subst e1
      rw [hx] at he; injection he with he; subst he
      exact hno j { x with users := u } (by simp [(List.getElem?_eq_some_iff.1 hx).1]) h0 hk
    · exact hno j e (by rw [List.getElem?_set, if_neg (fun q => e1 q.symm)]; exact he) hu1 hk
  · have := cntU_set E id x { x with users := u } hx
    rw [h.says.sz]
    simp only [hu, if_true, h0] at this
    omega
/-- the last user is gone -/
theorem PInv.out {E : List PE} {s s' : Ar} {D : KD} {M : Int} (h : PInv E s D M) {id : Nat} {x : PE} (hx : E[id]? = some x) (hu : 0 < x.users) (g : Gone s s' x.h.1 x.h.2.1) : PInv (E.set id { x with users := 0 }) s' (D.del (.string x.key)) M := by
  have hx0 : id ≠ 0 := fun e => by subst e; obtain ⟨e, h2, h3⟩ := h.zero; rw [hx] at h2; injection h2 with h2; subst h2; omega
  have back : ∀ {j : Nat} {e : PE}, (E.set id { x with users := 0 })[j]? = some e → 0 < e.users → j ≠ id ∧ E[j]? = some e := fun {j e} he hu => by
    rcases get_set he with ⟨rfl, rfl, _⟩ | h3
    · exact absurd hu (by simp)
    · exact h3
  refine ⟨?_, fun j e he => ?_, fun j e he hu2 => ?_, fun j j' e e' he he' hu1 hu2 hk => ?_, ⟨h.says.tidy.del _, fun j e he hu1 => ?_, fun key hno => ?_, ?_⟩, by have := h.len; simp; omega⟩
  · obtain ⟨e, h2, h3⟩ := h.zero
    exact ⟨e, by rw [List.getElem?_set, if_neg hx0]; exact h2, h3⟩
  · rcases get_set he with ⟨rfl, rfl, _⟩ | ⟨_, h3⟩
    · have := h.us j x hx; dsimp only; omega
    · exact h.us j e h3
  · obtain ⟨h3, h4⟩ := back he hu2
    refine ⟨(g.lvs _ _ _ _).2 ⟨(h.lv j e h4 hu2).1, fun q => h3 (h.apart h4 hx hu2 hu q.1 q.2)⟩, (h.lv j e h4 hu2).2⟩
  · obtain ⟨h3, h4⟩ := back he hu1
    obtain ⟨i3, i4⟩ := back he' hu2
    exact h.un j j' e e' h4 i4 hu1 hu2 hk
  · obtain ⟨h3, h4⟩ := back he hu1
    have hne : Lit.string e.key ≠ Lit.string x.key := fun q => by
      injection q with q
      exact h3 (h.un j id e x h4 hx hu1 hu q)
    rw [Maps.atKey_del_other hne, Maps.has_del_other hne]
    exact h.says.yes j e h4 hu1
  · by_cases hk : key = x.key
    · subst hk
      exact Maps.has_del_same
    · rw [Maps.has_del_other (fun q => by injection q with q; exact hk q)]
      refine h.says.no key (fun j e he hu1 hk2 => ?_)
      by_cases e1 : j = id
      · subst e1
        rw [hx] at he; injection he with he; subst he
        exact hk hk2.symm
      · exact hno j e (by rw [List.getElem?_set, if_neg (fun q => e1 q.symm)]; exact he) hu1 hk2
  · have h1 := cntU_set E id x { x with users := 0 } hx
    have h2 := Maps.size_del h.says.tidy (k := .string x.key)
    rw [(h.says.yes id x hx hu).2, h.says.sz] at h2
    simp only [hu, if_true] at h1 h2
    simp at h1
    omega
/-- one more entry, that is not in use -/
theorem PInv.grow {E : List PE} {s : Ar} {D : KD} {M : Int} (h : PInv E s D M) : PInv (E ++ [PE.zero]) s D (M + 1) := by
  have back : ∀ {j : Nat} {e : PE}, (E ++ [PE.zero])[j]? = some e → E[j]? = some e ∨ e = PE.zero := fun {j e} he => by
    rw [List.getElem?_append] at he
    split at he
    · exact .inl he
    · refine .inr ?_
      have := List.mem_of_getElem? he
      simpa using this
  have back2 : ∀ {j : Nat} {e : PE}, (E ++ [PE.zero])[j]? = some e → 0 < e.users → E[j]? = some e := fun {j e} he hu => by
    rcases back he with h1 | rfl
    · exact h1
    · exact absurd hu (by simp [PE.zero])
  have forth : ∀ {j : Nat} {e : PE}, E[j]? = some e → (E ++ [PE.zero])[j]? = some e := fun {j e} he => by
    rw [List.getElem?_append_left (List.getElem?_eq_some_iff.1 he).1]; exact he
  refine ⟨?_, fun j e he => ?_, fun j e he hu => h.lv j e (back2 he hu) hu, fun j j' e e' he he' hu1 hu2 hk => h.un j j' e e' (back2 he hu1) (back2 he' hu2) hu1 hu2 hk, ⟨h.says.tidy, fun j e he hu => h.says.yes j e (back2 he hu) hu, fun key hno => h.says.no key (fun j e he hu => hno j e (forth he) hu), ?_⟩, by have := h.len; simp; omega⟩
  · obtain ⟨e, h2, h3⟩ := h.zero
    exact ⟨e, forth h2, h3⟩
  · rcases back he with h1 | rfl
    · have := h.us j e h1; omega
    · obtain ⟨e0, h2, _⟩ := h.zero
      have := h.us 0 e0 h2
      simp only [PE.zero]; omega
  · rw [cntU_app, h.says.sz]; rfl
/-- a new key -/
theorem PInv.put {E : List PE} {s s1 s2 : Ar} {D : KD} {M : Int} (h : PInv E s D M) (hM : 1 ≤ M) {id : Nat} {x : PE} (hx : E[id]? = some x) (hu : x.users = 0) (h1 : 1 ≤ id) {i k : Nat} {age size : Int} {key : List UInt8} (hk1 : 1 ≤ key.length) (hk2 : key.length ≤ 255)
    (g : Got s s1 i k age size) (wr : Wrote s1 s2 i k age key) (hno : ∀ (j : Nat) (e : PE), E[j]? = some e → 0 < e.users → e.key ≠ key) : PInv (E.set id ⟨(i, k, age), key, 1⟩) s2 (D.put (.string key) (kval id)) M := by
  have hil := (List.getElem?_eq_some_iff.1 hx).1
  have hkl : WideAt.IsKeyLit (.string key) := trivial
  have hof : ∀ {j : Nat} {e : PE}, (E.set id ⟨(i, k, age), key, 1⟩)[j]? = some e → (j = id ∧ e = ⟨(i, k, age), key, 1⟩) ∨ (j ≠ id ∧ E[j]? = some e) := fun {j e} he => by
    rcases get_set he with ⟨h3, h4, _⟩ | h3
    · exact .inl ⟨h3, h4⟩
    · exact .inr h3
  have hold : ∀ {j : Nat} {e : PE}, E[j]? = some e → 0 < e.users → LV s2 e.h.1 e.h.2.1 e.h.2.2 e.key := fun {j e} he hu => by
    have h3 := (h.lv j e he hu).1
    refine (wr.lvs _ _ _ _).2 (.inr ⟨(g.lvs _ _ _ _).2 (.inr h3), fun q => ?_⟩)
    rw [q.1, q.2] at h3
    exact g.old _ _ h3
  refine ⟨?_, fun j e he => ?_, fun j e he hu2 => ?_, fun j j' e e' he he' hu1 hu2 hk => ?_, ⟨h.says.tidy.put hkl _, fun j e he hu1 => ?_, fun key' hno' => ?_, ?_⟩, by have := h.len; simp; omega⟩
  · obtain ⟨e, h2, h3⟩ := h.zero
    exact ⟨e, by rw [List.getElem?_set, if_neg (by omega)]; exact h2, h3⟩
  · rcases hof he with ⟨rfl, rfl⟩ | ⟨_, h3⟩
    · dsimp only; omega
    · exact h.us j e h3
  · rcases hof he with ⟨rfl, rfl⟩ | ⟨_, h3⟩
    · exact ⟨(wr.lvs _ _ _ _).2 (.inl ⟨rfl, rfl, rfl, rfl⟩), hk1, hk2⟩
    · exact ⟨hold h3 hu2, (h.lv j e h3 hu2).2⟩
  · rcases hof he with ⟨rfl, rfl⟩ | ⟨n3, h3⟩ <;> rcases hof he' with ⟨rfl, rfl⟩ | ⟨n4, h4⟩
    · rfl
    · exact absurd hk.symm (hno j' e' h4 hu2)
    · exact absurd hk (hno j e h3 hu1)
    · exact h.un j j' e e' h3 h4 hu1 hu2 hk
  · rcases hof he with ⟨rfl, rfl⟩ | ⟨n3, h3⟩
    · exact ⟨Maps.atKey_put_same h.says.tidy.isMap hkl _ _, Maps.has_put_same h.says.tidy.isMap hkl _⟩
    · have hne : Lit.string e.key ≠ Lit.string key := fun q => by injection q with q; exact hno j e h3 hu1 q
      rw [Maps.atKey_put_other hne, Maps.has_put_other hne]
      exact h.says.yes j e h3 hu1
  · have hne : Lit.string key' ≠ Lit.string key := fun q => by
      injection q with q
      exact hno' id ⟨(i, k, age), key, 1⟩ (by simp [hil]) (show (0 : Int) < 1 by omega) q.symm
    rw [Maps.has_put_other hne]
    refine h.says.no key' (fun j e he hu1 => ?_)
    by_cases e1 : j = id
    · subst e1
      rw [hx] at he; injection he with he; subst he
      omega
    · exact hno' j e (by rw [List.getElem?_set, if_neg (fun q => e1 q.symm)]; exact he) hu1
  · have h3 := cntU_set E id x ⟨(i, k, age), key, 1⟩ hx
    rw [Maps.size_put h.says.tidy, h.says.no key hno, h.says.sz]
    simp [hu] at h3
    simp
    omega
end Go.Proofs.Ytidobhflijdccaa
