/-
  The reference's pool in memory. No conditions beyond those of the statement. The reference's pool: NewPool, Find, Len, Text. No conditions beyond those of the statement. The reference's pool: Release of a number in use. No conditions beyond those of the statement.
-/
import Derived.Test.YtidobhflijdccaaGA
import Derived.Test.YtidobhflijdccaaGD
import Derived.Test.YtidobhflijdccaaPo
import Derived.Deep.RegionHeld3
set_option linter.unusedVariables false
set_option linter.unusedSimpArgs false
namespace Go.Proofs.Ytidobhflijdccaa
open Go.RowKit Cfp
def kyB (e : PE) : ByteArray := ⟨e.key.toArray⟩
theorem kyB_eq (e : PE) (t : ByteArray) : ((kyB e).toList == t.toList) = true ↔ e.key = t.data.toList := by
  rw [beq_iff_eq, ByteArray.toList_eq, ByteArray.toList_eq]
  unfold kyB
  simp
def kyCs (E : List PE) : List Value := E.map fun e => .string (kyB e)
def usCs (E : List PE) : List Value := E.map fun e => .int .i64 e.users
def pehC (e : PE) : List Value := [.int .i64 e.h.1, .int .i64 e.h.2.1, .int .i64 e.h.2.2]
def pehCs (E : List PE) : List Value := E.flatMap pehC
theorem kyCs_at {E : List PE} {i : Nat} {x : PE} (h : E[i]? = some x) : (kyCs E)[i]? = some (.string (kyB x)) := by simp [kyCs, h]
theorem usCs_at {E : List PE} {i : Nat} {x : PE} (h : E[i]? = some x) : (usCs E)[i]? = some (.int .i64 x.users) := by simp [usCs, h]
theorem pehCs_at {E : List PE} {i : Nat} {x : PE} (h : E[i]? = some x) : (pehCs E)[i * 3]? = some (.int .i64 x.h.1) ∧ (pehCs E)[i * 3 + 1]? = some (.int .i64 x.h.2.1) ∧ (pehCs E)[i * 3 + 2]? = some (.int .i64 x.h.2.2) :=
  ⟨flat_get _ 3 (fun _ => rfl) E i 0 x h (by omega), flat_get _ 3 (fun _ => rfl) E i 1 x h (by omega), flat_get _ 3 (fun _ => rfl) E i 2 x h (by omega)⟩
theorem pehCs_set {E : List PE} {i k : Nat} {x y : PE} {v : Value} (h : E[i]? = some x) (hk : k < 3) (hy : pehC y = (pehC x).set k v) : (pehCs E).set (i * 3 + k) v = pehCs (E.set i y) := flat_set _ 3 (fun _ => rfl) E i k x y v h hk hy
theorem kyCs_app (E F : List PE) : kyCs (E ++ F) = kyCs E ++ kyCs F := List.map_append
theorem usCs_app (E F : List PE) : usCs (E ++ F) = usCs E ++ usCs F := List.map_append
theorem pehCs_app (E F : List PE) : pehCs (E ++ F) = pehCs E ++ pehCs F := List.flatMap_append
theorem usCs_set (E : List PE) (i : Nat) (y : PE) : (usCs E).set i (.int .i64 y.users) = usCs (E.set i y) := by simp [usCs, List.map_set]
theorem kyCs_set (E : List PE) (i : Nat) (y : PE) : (kyCs E).set i (.string (kyB y)) = kyCs (E.set i y) := by simp [kyCs, List.map_set]
theorem elemStr : ElemOf Try.prog 62 9 1 16 := ElemOf.mk' (z := .string ⟨#[]⟩) Try.underlying62 (by kernel_rfl) rfl (by omega)
theorem elemIntP : ElemOf Try.prog 23 3 1 8 := ElemOf.mk' (z := .int .i64 0) Try.underlying23 (by kernel_rfl) rfl (by omega)
theorem elemHdP : ElemOf Try.prog 49 40 3 24 := ElemOf.mk' (z := .agg #[.int .i64 0, .int .i64 0, .int .i64 0]) Try.underlying49 (by kernel_rfl) rfl (by omega)
/-- block p holds the reference's pool, without its arena; what is in F is none of its own -/
structure RPm (w : World) (F : Nat → Prop) (p b : Nat) (n : Int) (E : List PE) (KA : Option Addr) (kc : Nat) (UA : Option Addr) (uc : Nat) (TA : Option Addr) (tc : Nat) : Prop where
  blk : Blk w p 153 #[.pointer (some ⟨b, 0, none⟩), .int .i64 n, .slice KA E.length kc, .slice UA E.length uc, .slice TA E.length tc]
  ks : Own w 0 9 1 KA E.length kc (kyCs E)
  us : Own w 0 3 1 UA E.length uc (usCs E)
  ts : Own w 0 40 3 TA E.length tc (pehCs E)
  fp : ¬ F p
  fk : ∀ k, inB KA k → ¬ F k
  fu : ∀ k, inB UA k → ¬ F k
  ft : ∀ k, inB TA k → ¬ F k
/-- what the reference's arena may not touch -/
def RG (F : Nat → Prop) (p : Nat) (KA UA TA : Option Addr) (k : Nat) : Prop := F k ∨ k = p ∨ inB KA k ∨ inB UA k ∨ inB TA k
/-- the reference's pool and its arena -/
def IsRP (w : World) (F : Nat → Prop) (p b : Nat) (n : Int) (E : List PE) (ρ : RA) : Prop := ∃ KA kc UA uc TA tc, RPm w F p b n E KA kc UA uc TA tc ∧ IsRA w (RG F p KA UA TA) b ρ
/-- what the reference's pool and its arena write -/
def RPS (F : Nat → Prop) (w : World) (k : Nat) : Prop := ¬ F k ∧ ∃ cs t, Blk w k t cs ∧ (t = 136 ∨ t = 139 ∨ t = 3 ∨ t = 153 ∨ t = 9 ∨ t = 40)
/-- what they do not mind -/
def RPO (F : Nat → Prop) (w : World) (k : Nat) : Prop := F k ∨ (∃ es c, w.heap[k]? = some (.map es c)) ∨ ∃ cs t, Blk w k t cs ∧ t ≠ 136 ∧ t ≠ 139 ∧ t ≠ 3 ∧ t ≠ 37 ∧ t ≠ 5 ∧ t ≠ 153 ∧ t ≠ 9 ∧ t ≠ 40
section
variable {w w' : World} {F S : Nat → Prop} {p b : Nat} {n : Int} {E : List PE} {ρ : RA} {KA UA TA : Option Addr} {kc uc tc : Nat}
theorem blk_map {t : TypeId} {cs : Array Value} {k : Nat} {es : Array MapEntry} {c : Nat} (h : Blk w k t cs) (hm : w.heap[k]? = some (.map es c)) : False := by
  unfold Blk at h
  rw [hm] at h
  cases h
theorem RPO.blk {t : TypeId} {k : Nat} {cs : Array Value} (h : RPO F w k) (o : Blk w k t cs) (hG : ¬ F k) (he : t = 136 ∨ t = 139 ∨ t = 3 ∨ t = 37 ∨ t = 5 ∨ t = 153 ∨ t = 9 ∨ t = 40) : False := by
  rcases h with h | ⟨es, c, h⟩ | ⟨cs', t', h1, h2, h3, h4, h5, h6, h7, h8, h9⟩
  · exact hG h
  · exact blk_map o h
  · have := blk_type h1 o
    subst this
    rcases he with e | e | e | e | e | e | e | e
    · exact h2 e
    · exact h3 e
    · exact h4 e
    · exact h5 e
    · exact h6 e
    · exact h7 e
    · exact h8 e
    · exact h9 e
theorem RPO.own {e : TypeId} {sz m c k base : Nat} {A : Option Addr} {xs : List Value} (h : RPO F w k) (o : Own w base e sz A m c xs) (hG : ∀ k, inB A k → ¬ F k) (he : e = 136 ∨ e = 139 ∨ e = 3 ∨ e = 37 ∨ e = 5 ∨ e = 153 ∨ e = 9 ∨ e = 40) : ¬ inB A k := by
  intro hb
  obtain ⟨cs, h1⟩ := o.blk hb
  exact h.blk h1 (hG k hb) he
theorem RPm.kept (h : RPm w F p b n E KA kc UA uc TA tc) (k : Keeps S w w') (hS : ∀ k, S k → RPO F w k) : RPm w' F p b n E KA kc UA uc TA tc :=
  ⟨h.blk.kept k (fun e => (hS _ e).blk h.blk h.fp (by decide)), h.ks.kept k (fun q hq e => (hS _ e).own h.ks h.fk (by decide) hq), h.us.kept k (fun q hq e => (hS _ e).own h.us h.fu (by decide) hq), h.ts.kept k (fun q hq e => (hS _ e).own h.ts h.ft (by decide) hq), h.fp, h.fk, h.fu, h.ft⟩
/-- the reference's arena, where maps are written too -/
theorem IsRA.keptM {G : Nat → Prop} (h : IsRA w G b ρ) (k : Keeps S w w') (hS : ∀ k, S k → RO G w k ∨ ∃ es c, w.heap[k]? = some (.map es c)) : IsRA w' G b ρ := by
  have hb : ∀ {t : TypeId} {k : Nat} {cs : Array Value}, Blk w k t cs → S k → RO G w k := fun o e => by
    rcases hS _ e with h | ⟨es, c, h⟩
    · exact h
    · exact (blk_map o h).elim
  have ho : ∀ {e : TypeId} {sz m c k base : Nat} {A : Option Addr} {xs : List Value}, Own w base e sz A m c xs → inB A k → S k → RO G w k := fun o hq e => by
    obtain ⟨cs, h1⟩ := o.blk hq
    exact hb h1 e
  obtain ⟨LA, lc, SA, sc, FA, fc, q, h⟩ := h
  exact ⟨LA, lc, SA, sc, FA, fc, q, h.blk.kept k (fun e => (hb h.blk e).blk h.blk h.gb (.inl rfl)), h.ls.kept k (fun p hp e => (ho h.ls hp e).own h.ls h.gl (.inr (.inr (.inl rfl))) hp), h.sl.kept k (fun p hp e => (ho h.sl hp e).own h.sl h.gs (.inl rfl) hp), h.fr.kept k (fun p hp e => (ho h.fr hp e).own h.fr h.gf (.inr (.inl rfl)) hp),
    h.nx.kept k (fun e => (hb h.nx e).blk h.nx h.gq (.inr rfl)), fun x hx => (h.da x hx).kept k (fun p hp e => (ho (h.da x hx) hp e).own (h.da x hx) (h.gd x hx) (.inr (.inr (.inr rfl))) hp), h.fq, h.gb, h.gq, h.gs, h.gf, h.gl, h.gd⟩
/-- the arena may not touch other blocks, none of them its own -/
theorem IsRA.other {G G' : Nat → Prop} (h : IsRA w G b ρ) (hG : ∀ k, k < w.heap.size → G' k → G k) : IsRA w G' b ρ := by
  obtain ⟨LA, lc, SA, sc, FA, fc, q, h⟩ := h
  exact ⟨LA, lc, SA, sc, FA, fc, q, h.blk, h.ls, h.sl, h.fr, h.nx, h.da, h.fq, fun e => h.gb (hG _ h.blk.lt e), fun e => h.gq (hG _ h.nx.lt e), fun k hk e => h.gs k hk (hG _ (h.sl.inB hk).2 e), fun k hk e => h.gf k hk (hG _ (h.fr.inB hk).2 e), fun k hk e => h.gl k hk (hG _ (h.ls.inB hk).2 e), fun x hx k hk e => h.gd x hx k hk (hG _ ((h.da x hx).inB hk).2 e)⟩
theorem RPO.ro {k : Nat} (h : RPO F w k) : RO (RG F p KA UA TA) w k ∨ ∃ es c, w.heap[k]? = some (.map es c) := by
  rcases h with h | h | ⟨cs', t', h1, h2, h3, h4, h5, h6, h7, h8, h9⟩
  · exact .inl (.inl (.inl h))
  · exact .inr h
  · exact .inl (.inr ⟨cs', t', h1, h2, h3, h4, h5, h6⟩)
theorem IsRP.kept (h : IsRP w F p b n E ρ) (k : Keeps S w w') (hS : ∀ k, S k → RPO F w k) : IsRP w' F p b n E ρ := by
  obtain ⟨KA, kc, UA, uc, TA, tc, h1, h2⟩ := h
  exact ⟨KA, kc, UA, uc, TA, tc, h1.kept k hS, h2.keptM k (fun q hq => (hS q hq).ro)⟩
theorem IsRP.quiet (h : IsRP w F p b n E ρ) (k : Keeps (fun _ => False) w w') : IsRP w' F p b n E ρ := h.kept k (fun _ h => h.elim)
theorem RPm.quiet (h : RPm w F p b n E KA kc UA uc TA tc) (k : Keeps (fun _ => False) w w') : RPm w' F p b n E KA kc UA uc TA tc := h.kept k (fun _ h => h.elim)
/-- what the program's arena and pool write is nothing to the reference's -/
theorem PoS.rpo {B k : Nat} (h : PoS B w k) : RPO F w k := by
  rcases h with ⟨_, cs, t, h1, h2⟩ | ⟨_, ⟨cs, t, h1, h2⟩ | h1⟩
  · refine .inr (.inr ⟨cs, t, h1, ?_⟩)
    rcases h2 with rfl | rfl | rfl <;> decide
  · refine .inr (.inr ⟨cs, t, h1, ?_⟩)
    rcases h2 with rfl | rfl <;> decide
  · exact .inr (.inl h1)
/-- and the other way round -/
theorem RPS.other {B k : Nat} (h : RPS F w k) : Other w B k := by
  obtain ⟨_, cs, t, h1, h2⟩ := h
  refine .inr ⟨cs, t, h1, ?_⟩
  rcases h2 with rfl | rfl | rfl | rfl | rfl | rfl <;> decide
theorem RPS.oth {B k : Nat} (h : RPS F w k) : OthP w B k := by
  obtain ⟨_, cs, t, h1, h2⟩ := h
  refine .inr ⟨cs, t, h1, ?_⟩
  rcases h2 with rfl | rfl | rfl | rfl | rfl | rfl <;> decide
theorem RPS.trans {w0 : World} (h : Keeps (RPS F w0) w0 w) (k : Keeps (RPS F w) w w') : Keeps (RPS F w0) w0 w' := h.step k (fun p hp ⟨h1, cs, t, h2, h3⟩ => by
  by_cases e : RPS F w0 p
  · exact e
  · exact ⟨h1, cs, t, by have := h.block p hp e; exact this.symm.trans h2, h3⟩)
theorem RPS.quiet {w0 : World} (h : Keeps (fun _ => False) w0 w) (k : Keeps (RPS F w) w w') : Keeps (RPS F w0) w0 w' := RPS.trans (h.weak (fun _ _ h => h.elim)) k
/-- what its arena writes -/
theorem RS.rps {k : Nat} (h : RS (RG F p KA UA TA) w k) : RPS F w k := by
  obtain ⟨h1, cs, t, h2, h3⟩ := h
  refine ⟨fun e => h1 (.inl e), cs, t, h2, ?_⟩
  rcases h3 with rfl | rfl | rfl <;> decide
/-- the pool's own blocks stay, whatever its arena does -/
theorem RPm.arena (h : RPm w F p b n E KA kc UA uc TA tc) (k : Keeps (RS (RG F p KA UA TA) w) w w') : RPm w' F p b n E KA kc UA uc TA tc :=
  ⟨h.blk.kept k (fun e => e.1 (.inr (.inl rfl))), h.ks.kept k (fun q hq e => e.1 (.inr (.inr (.inl hq)))), h.us.kept k (fun q hq e => e.1 (.inr (.inr (.inr (.inl hq))))), h.ts.kept k (fun q hq e => e.1 (.inr (.inr (.inr (.inr hq))))), h.fp, h.fk, h.fu, h.ft⟩
theorem RPm.inU (h : RPm w F p b n E KA kc UA uc TA tc) {k : Nat} (hk : inB UA k) : RPS F w k := by
  obtain ⟨cs, hb⟩ := h.us.blk hk
  exact ⟨h.fu k hk, _, _, hb, by decide⟩
theorem RPm.inK (h : RPm w F p b n E KA kc UA uc TA tc) {k : Nat} (hk : inB KA k) : RPS F w k := by
  obtain ⟨cs, hb⟩ := h.ks.blk hk
  exact ⟨h.fk k hk, _, _, hb, by decide⟩
theorem RPm.inT (h : RPm w F p b n E KA kc UA uc TA tc) {k : Nat} (hk : inB TA k) : RPS F w k := by
  obtain ⟨cs, hb⟩ := h.ts.blk hk
  exact ⟨h.ft k hk, _, _, hb, by decide⟩
theorem RPm.inP (h : RPm w F p b n E KA kc UA uc TA tc) : RPS F w p := ⟨h.fp, _, _, h.blk, by decide⟩
/-- the users of a number change -/
theorem RPm.users {ug : Nat} (h : RPm w F p b n E KA kc (some ⟨ug, 0, none⟩) uc TA tc) {i : Nat} {x : PE} (hx : E[i]? = some x) (u : Int) :
    RPm (w.setCell ⟨ug, i, none⟩ (.int .i64 u)) F p b n (E.set i { x with users := u }) KA kc (some ⟨ug, 0, none⟩) uc TA tc := by
  have k := keepsOne w ug i (.int .i64 u)
  have hu : inB (some ⟨ug, 0, none⟩ : Option Addr) ug := ⟨_, rfl, rfl⟩
  have hl : (E.set i { x with users := u }).length = E.length := by simp
  have e1 : kyCs (E.set i { x with users := u }) = kyCs E := by
    rw [← kyCs_set]
    refine List.ext_getElem? fun j => ?_
    rw [List.getElem?_set]
    split
    · next e =>
      subst e
      have := kyCs_at hx
      split
      · rw [this]; rfl
      · next h => rw [List.getElem?_eq_some_iff] at this; exact absurd this.1 h
    · rfl
  have e2 : pehCs (E.set i { x with users := u }) = pehCs E := by
    have := pehCs_set (v := .int .i64 x.h.1) (y := { x with users := u }) hx (show 0 < 3 by omega) rfl
    rw [← this]
    refine List.ext_getElem? fun j => ?_
    rw [List.getElem?_set]
    split
    · next e =>
      subst e
      have := (pehCs_at hx).1
      split
      · exact this.symm
      · next h => rw [List.getElem?_eq_some_iff] at this; exact absurd this.1 h
    · rfl
  refine ⟨?_, ?_, ?_, ?_, h.fp, h.fk, h.fu, h.ft⟩
  · rw [hl]; exact h.blk.kept k (fun e => (h.us.ne_blk h.blk (by decide) hu) e.symm)
  · rw [hl, e1]; exact h.ks.kept k (fun q hq e => by subst e; exact h.us.ne h.ks (by decide) hu hq)
  · rw [hl, ← usCs_set]; exact h.us.store i _
  · rw [hl, e2]; exact h.ts.kept k (fun q hq e => by subst e; exact h.us.ne h.ts (by decide) hu hq)
end
end Go.Proofs.Ytidobhflijdccaa

set_option linter.unusedVariables false
set_option linter.unusedSimpArgs false
namespace Go.Proofs.Ytidobhflijdccaa
open Go.RowKit Cfp
theorem rpnew_x (w : World) (F : Nat → Prop) (b : Nat) (k : Int) (ρ : RA) (h1 : 1 ≤ k) (h2 : k ≤ 8192) (hA : IsRA w F b ρ) (hF : ∀ q, F q → q < w.heap.size) :
    Calls Try.prog 47 #[.pointer (some ⟨b, 0, none⟩), .int .i64 k] w fun e w' => ∃ p, e = .returned (.tuple #[.pointer (some ⟨p, 0, none⟩), .int .i64 0]) ∧ IsRP w' F p b k [PE.zero] ρ ∧ Keeps (fun _ => False) w w' := by
  have t1 : decide (k < 1) = false := by simp; omega
  have t2 : decide ((8192 : Int) < k) = false := by simp; omega
  have HA := hide hA
  have HF := hide hF
  clear hA hF h1 h2
  go_enter Try.func47, Try.ntmps47
  go_wp2_with fail
  go_ret2
  obtain ⟨w1, hw1⟩ : ∃ w1, w1 = w.alloc (.cells #[.string ⟨#[]⟩] 9) := ⟨_, rfl⟩
  have k1 : Keeps (fun _ => False) w w1 := by rw [hw1]; exact (Keeps.refl _ _).alloc _
  have s1 : w1.heap.size = w.heap.size + 1 := by rw [hw1]; simp
  have o1 : Own w1 0 9 1 (some ⟨w.heap.size, 0, none⟩) 1 1 (kyCs [PE.zero]) := by rw [hw1]; exact Own.new_at w 0 _ #[.string ⟨#[]⟩] 1 1 _ rfl (by omega) (by simp [maxLen]) rfl
  rw [← hw1]
  obtain ⟨w2, hw2⟩ : ∃ w2, w2 = w1.alloc (.cells #[.int .i64 0] 3) := ⟨_, rfl⟩
  have k2 : Keeps (fun _ => False) w1 w2 := by rw [hw2]; exact (Keeps.refl _ _).alloc _
  have s2 : w2.heap.size = w.heap.size + 1 + 1 := by rw [hw2]; simp [s1]
  have o2 : Own w2 0 3 1 (some ⟨w.heap.size + 1, 0, none⟩) 1 1 (usCs [PE.zero]) := by rw [hw2]; exact Own.new_at w1 0 _ #[.int .i64 0] 1 1 _ s1.symm (by omega) (by simp [maxLen]) rfl
  rw [← hw2]
  obtain ⟨w3, hw3⟩ : ∃ w3, w3 = w2.alloc (.cells #[.int .i64 0, .int .i64 0, .int .i64 0] 40) := ⟨_, rfl⟩
  have k3 : Keeps (fun _ => False) w2 w3 := by rw [hw3]; exact (Keeps.refl _ _).alloc _
  have s3 : w3.heap.size = w.heap.size + 1 + 1 + 1 := by rw [hw3]; simp [s2]
  have o3 : Own w3 0 40 3 (some ⟨w.heap.size + 1 + 1, 0, none⟩) 1 1 (pehCs [PE.zero]) := by rw [hw3]; exact Own.new_at w2 0 _ #[.int .i64 0, .int .i64 0, .int .i64 0] 1 3 _ s2.symm (by omega) (by simp [maxLen]) rfl
  rw [← hw3]
  obtain ⟨w4, hw4⟩ : ∃ w4, w4 = w3.alloc (.cells #[.pointer (some ⟨b, 0, none⟩), .int .i64 k, .slice (some ⟨w.heap.size, 0, none⟩) 1 1, .slice (some ⟨w.heap.size + 1, 0, none⟩) 1 1, .slice (some ⟨w.heap.size + 1 + 1, 0, none⟩) 1 1] 153) := ⟨_, rfl⟩
  have k4 : Keeps (fun _ => False) w3 w4 := by rw [hw4]; exact (Keeps.refl _ _).alloc _
  have b4 : Blk w4 (w.heap.size + 1 + 1 + 1) 153 #[.pointer (some ⟨b, 0, none⟩), .int .i64 k, .slice (some ⟨w.heap.size, 0, none⟩) 1 1, .slice (some ⟨w.heap.size + 1, 0, none⟩) 1 1, .slice (some ⟨w.heap.size + 1 + 1, 0, none⟩) 1 1] := by rw [hw4]; exact Blk.new_at _ _ _ _ s3.symm
  rw [← hw4]
  clear hw1 hw2 hw3 hw4
  have hq : ∀ {g q : Nat}, inB (some ⟨g, 0, none⟩) q → q = g := fun h => ((inB_some _ _ _).1 h).symm
  have hkk : Keeps (fun _ => False) w w4 := ((k1.trans k2).trans k3).trans k4
  refine ⟨w.heap.size + 1 + 1 + 1, rfl, ⟨some ⟨w.heap.size, 0, none⟩, 1, some ⟨w.heap.size + 1, 0, none⟩, 1, some ⟨w.heap.size + 1 + 1, 0, none⟩, 1, ⟨?_, ?_, ?_, ?_, ?_, ?_, ?_, ?_⟩, ?_⟩, hkk⟩
  · exact b4
  · exact ((o1.kept k2 (fun _ _ h => h)).kept k3 (fun _ _ h => h)).kept k4 (fun _ _ h => h)
  · exact (o2.kept k3 (fun _ _ h => h)).kept k4 (fun _ _ h => h)
  · exact o3.kept k4 (fun _ _ h => h)
  · intro h; have := HF.out _ h; omega
  · intro q h1 h; have := HF.out _ h; have := hq h1; omega
  · intro q h1 h; have := HF.out _ h; have := hq h1; omega
  · intro q h1 h; have := HF.out _ h; have := hq h1; omega
  · refine (HA.out.other (G' := RG F (w.heap.size + 1 + 1 + 1) (some ⟨w.heap.size, 0, none⟩) (some ⟨w.heap.size + 1, 0, none⟩) (some ⟨w.heap.size + 1 + 1, 0, none⟩)) (fun q hq' h => ?_)).quiet hkk
    rcases h with h | h | h | h | h
    · exact h
    · omega
    · have := hq h; omega
    · have := hq h; omega
    · have := hq h; omega
section
variable {w : World} {F : Nat → Prop} {p b : Nat} {n : Int} {E : List PE} {ρ : RA} {KA UA TA : Option Addr} {kc uc tc : Nat}
theorem RPm.cells (h : RPm w F p b n E KA kc UA uc TA tc) (N : Nat) (hN : N = E.length) : (w.cell? ⟨p, 0, none⟩ = some (.pointer (some ⟨b, 0, none⟩)) ∧ w.cell? ⟨p, 1, none⟩ = some (.int .i64 n) ∧ w.cell? ⟨p, 2, none⟩ = some (.slice KA N kc) ∧ w.cell? ⟨p, 3, none⟩ = some (.slice UA N uc) ∧ w.cell? ⟨p, 4, none⟩ = some (.slice TA N tc)) ∧ p < w.heap.size := by
  subst hN
  exact ⟨⟨h.blk.cell 0, h.blk.cell 1, h.blk.cell 2, h.blk.cell 3, h.blk.cell 4⟩, h.blk.lt⟩
/-- what the reference's Find answers -/
def RFinds (E : List PE) (key : List UInt8) (e : Ending) : Prop :=
  (∃ (id : Nat) (x : PE), 1 ≤ id ∧ E[id]? = some x ∧ 0 < x.users ∧ x.key = key ∧ e = .returned (.tuple #[.int .i64 id, .int .i64 x.users])) ∨ (NoKey E key ∧ e = .returned (.tuple #[.int .i64 0, .int .i64 0]))
set_option maxRecDepth 100000 in
set_option maxHeartbeats 1000000 in
theorem rpfind_any (h : RPm w F p b n E KA kc UA uc TA tc) (hz : ∃ e, E[0]? = some e ∧ e.users = 0) (hE : E.length ≤ 1000000) (t : ByteArray) :
    Calls Try.prog 53 #[.pointer (some ⟨p, 0, none⟩), .string t] w fun e w' => RFinds E t.data.toList e ∧ Keeps (fun _ => False) w w' := by
  obtain ⟨N, hN⟩ : ∃ N, N = E.length := ⟨_, rfl⟩
  have hE0 : 0 < N := by obtain ⟨y, h2, _⟩ := hz; rw [hN]; exact (List.getElem?_eq_some_iff.1 h2).1
  have hEN : N ≤ 1000000 := by omega
  obtain ⟨⟨c0, c1, c2, c3, c4⟩, hpl⟩ := h.cells N hN
  have hks := h.ks
  have hus := h.us
  rw [← hN] at hks hus
  obtain ⟨gk, rfl, _, hgk⟩ := hks.some_ hE0
  obtain ⟨gu, rfl, _, hgu⟩ := hus.some_ hE0
  have HKS := hide hks
  have HUS := hide hus
  have HZ := hide hz
  have HN := hide hN
  clear h hz hE hN hks hus c0 c1 c4
  go_enter Try.func53, Try.ntmps53
  go_upto_region 2 with fail
  go_loopw [6] (fun iv wr => ∃ i : Nat, 1 ≤ i ∧ i ≤ N ∧ iv = .int .i64 (i : Int) ∧ Hid (∀ j y, 1 ≤ j → j < i → E[j]? = some y → 0 < y.users → y.key ≠ t.data.toList) ∧ wr = w) (fun iv _ => N - (intOf iv).toNat)
  case atStart => exact ⟨1, by omega, by omega, rfl, hide (fun j x h => by omega), rfl⟩
  case round =>
    obtain ⟨i, hi1, hi, rfl, HB, rfl⟩ := hrel
    by_cases hlt : i < N
    · have e1 : decide ((i : Int) < (N : Int)) = true := by simpa using hlt
      obtain ⟨x, hx⟩ : ∃ x, E[i]? = some x := ⟨E[i]'(by rw [← HN.out]; exact hlt), List.getElem?_eq_getElem _⟩
      have q1 := HUS.out.cell i (by omega)
      rw [usCs_at hx] at q1
      have q2 := HKS.out.cell i (by omega)
      rw [kyCs_at hx] at q2
      have hiI : (i : Int) < (N : Int) := by omega
      have hi00 : (0 : Int) ≤ (i : Int) := by omega
      have HX := hide hx
      clear hx
      by_cases hu : 0 < x.users
      · have e2 : decide ((0 : Int) < x.users) = true := by simpa using hu
        have HU := hide hu
        clear hu
        rcases hk : ((kyB x).toList == t.toList) with _ | _
        · have HB2 : Hid (∀ j y, 1 ≤ j → j < i + 1 → E[j]? = some y → 0 < y.users → y.key ≠ t.data.toList) := hide (fun j y h1 hj hy hyu e => by
            rcases Nat.lt_succ_iff_lt_or_eq.1 hj with h | h
            · exact HB.out j y h1 h hy hyu e
            · rw [h, HX.out] at hy
              injection hy with hy
              rw [hy, (kyB_eq y t).2 e] at hk
              cases hk)
          go_wp2_with fail
          go_roundw
          case rel => exact ⟨i + 1, by omega, by omega, by go_num, HB2, by trivial⟩
          case measure => simp [intOf]; omega
        · have HK := hide ((kyB_eq x t).1 hk)
          go_upto_region 5 with fail
          go_quiet (fail)
          go_wp2_with fail
          go_ret2
          exact ⟨.inl ⟨i, x, by omega, HX.out, HU.out, HK.out, rfl⟩, by first | exact (Keeps.refl _ _).drewN _ | exact Keeps.refl _ _⟩
      · have e2 : decide ((0 : Int) < x.users) = false := by simpa using hu
        have HB2 : Hid (∀ j y, 1 ≤ j → j < i + 1 → E[j]? = some y → 0 < y.users → y.key ≠ t.data.toList) := hide (fun j y h1 hj hy hyu e => by
          rcases Nat.lt_succ_iff_lt_or_eq.1 hj with h | h
          · exact HB.out j y h1 h hy hyu e
          · rw [h, HX.out] at hy
            injection hy with hy
            rw [hy] at hu
            exact hu hyu)
        clear hu
        go_wp2_with fail
        go_roundw
        case rel => exact ⟨i + 1, by omega, by omega, by go_num, HB2, by trivial⟩
        case measure => simp [intOf]; omega
    · have e1 : decide ((i : Int) < (N : Int)) = false := by simpa using hlt
      have HNo : Hid (NoKey E t.data.toList) := hide (fun j y hy hyu e => by
        have hj := (List.getElem?_eq_some_iff.1 hy).1
        have := HN.out
        rcases Nat.eq_zero_or_pos j with h0 | h0
        · subst h0
          obtain ⟨z, h2, h3⟩ := HZ.out
          rw [hy] at h2
          injection h2 with h2
          subst h2
          omega
        · exact HB.out j y h0 (by omega) hy hyu e)
      go_wp2_with fail
      go_ret2
      exact ⟨.inr ⟨HNo.out, rfl⟩, Keeps.refl _ _⟩
theorem cntU_take {i : Nat} {x : PE} (h : E[i]? = some x) : cntU (E.take (i + 1)) = cntU (E.take i) + (if 0 < x.users then 1 else 0) := by
  rw [List.take_add_one, cntU_app, h]
  simp [cntU]
set_option maxRecDepth 100000 in
set_option maxHeartbeats 1000000 in
theorem rplen_any (h : RPm w F p b n E KA kc UA uc TA tc) (hE : E.length ≤ 1000000) :
    Calls Try.prog 54 #[.pointer (some ⟨p, 0, none⟩)] w fun e w' => e = .returned (.int .i64 (cntU E : Int)) ∧ w' = w := by
  obtain ⟨N, hN⟩ : ∃ N, N = E.length := ⟨_, rfl⟩
  have hEN : N ≤ 1000000 := by omega
  obtain ⟨⟨c0, c1, c2, c3, c4⟩, hpl⟩ := h.cells N hN
  have hus := h.us
  rw [← hN] at hus
  have HUS := hide hus
  have HN := hide hN
  clear h hE hN hus c0 c1 c2 c4
  go_enter Try.func54, Try.ntmps54
  go_upto_region 3 with fail
  go_loopw [3, 5, 11] (fun cv _ iv wr => ∃ i c : Nat, i ≤ N ∧ iv = .int .i64 (i : Int) ∧ cv = .int .i64 (c : Int) ∧ c ≤ i ∧ Hid (c = cntU (E.take i)) ∧ wr = w) (fun _ _ iv _ => N - (intOf iv).toNat)
  case atStart => exact ⟨0, 0, by omega, rfl, rfl, by omega, hide rfl, rfl⟩
  case round =>
    obtain ⟨i, c, hi, rfl, rfl, hci, HC, rfl⟩ := hrel
    by_cases hlt : i < N
    · have e1 : decide ((i : Int) < (N : Int)) = true := by simpa using hlt
      obtain ⟨gu, rfl, _, hgu⟩ := HUS.out.some_ (by omega)
      obtain ⟨x, hx⟩ : ∃ x, E[i]? = some x := ⟨E[i]'(by rw [← HN.out]; exact hlt), List.getElem?_eq_getElem _⟩
      have q1 := HUS.out.cell i (by omega)
      rw [usCs_at hx] at q1
      have hiI : (i : Int) < (N : Int) := by omega
      have hi00 : (0 : Int) ≤ (i : Int) := by omega
      have HT := hide (cntU_take hx)
      clear hx
      by_cases hu : 0 < x.users
      · have e2 : decide ((0 : Int) < x.users) = true := by simpa using hu
        have HC2 : Hid (c + 1 = cntU (E.take (i + 1))) := hide (by rw [HT.out, if_pos hu, ← HC.out])
        clear hu
        go_wp2_with fail
        go_roundw
        case rel => exact ⟨i + 1, c + 1, by omega, by go_num, by go_num, by omega, HC2, by trivial⟩
        case measure => simp [intOf]; omega
      · have e2 : decide ((0 : Int) < x.users) = false := by simpa using hu
        have HC2 : Hid (c = cntU (E.take (i + 1))) := hide (by rw [HT.out, if_neg hu, ← HC.out]; rfl)
        clear hu
        go_wp2_with fail
        go_roundw
        case rel => exact ⟨i + 1, c, by omega, by go_num, rfl, by omega, HC2, by trivial⟩
        case measure => simp [intOf]; omega
    · have e1 : decide ((i : Int) < (N : Int)) = false := by simpa using hlt
      have HC2 : Hid (c = cntU E) := hide (by rw [HC.out, List.take_of_length_le (by have := HN.out; omega)])
      go_wp2_with fail
      go_ret
      exact ⟨ret_int (by rw [HC2.out]), rfl⟩
set_option maxRecDepth 100000 in
theorem rptext_ok (h : RPm w F p b n E KA kc UA uc TA tc) (hE : E.length ≤ 1000000) (id : Nat) (x : PE) (h1 : 1 ≤ id) (hx : E[id]? = some x) (hu : 0 < x.users) :
    Calls Try.prog 52 #[.pointer (some ⟨p, 0, none⟩), .int .i64 id] w fun e w' => e = .returned (.tuple #[.string (kyB x), .int .i64 0]) ∧ w' = w := by
  obtain ⟨N, hN⟩ : ∃ N, N = E.length := ⟨_, rfl⟩
  have hid : id < N := by rw [hN]; exact (List.getElem?_eq_some_iff.1 hx).1
  have hEN : N ≤ 1000000 := by omega
  obtain ⟨⟨c0, c1, c2, c3, c4⟩, hpl⟩ := h.cells N hN
  have hks := h.ks
  have hus := h.us
  rw [← hN] at hks hus
  obtain ⟨gk, rfl, _, hgk⟩ := hks.some_ (by omega)
  obtain ⟨gu, rfl, _, hgu⟩ := hus.some_ (by omega)
  have q1 := hus.cell id (by omega)
  rw [usCs_at hx] at q1
  have q2 := hks.cell id (by omega)
  rw [kyCs_at hx] at q2
  have t1 : decide ((id : Int) < 1) = false := by simp; omega
  have t2 : decide ((N : Int) ≤ (id : Int)) = false := by simp; omega
  have t3 : (x.users == 0) = false := by simp; omega
  have hiI : (id : Int) < (N : Int) := by omega
  have hi00 : (0 : Int) ≤ (id : Int) := by omega
  clear h hE hN hks hus c0 c1 c4 hx hu h1
  go_enter Try.func52, Try.ntmps52
  go_wp2_with fail
  go_ret2
  exact ⟨rfl, rfl⟩
set_option maxRecDepth 100000 in
theorem rptext_bad (h : RPm w F p b n E KA kc UA uc TA tc) (hE : E.length ≤ 1000000) (hz : ∀ (id : Nat) (e : PE), E[id]? = some e → 0 ≤ e.users) (z : Int) (hb : -9223372036854775808 ≤ z ∧ z < 9223372036854775808) (hno : ∀ id x, ¬ Used E z id x) :
    Calls Try.prog 52 #[.pointer (some ⟨p, 0, none⟩), .int .i64 z] w fun e w' => e = .returned (.tuple #[.string ⟨#[]⟩, .int .i64 8]) ∧ w' = w := by
  obtain ⟨N, hN⟩ : ∃ N, N = E.length := ⟨_, rfl⟩
  have hEN : N ≤ 1000000 := by omega
  obtain ⟨⟨c0, c1, c2, c3, c4⟩, hpl⟩ := h.cells N hN
  have HH := hide h
  have HN := hide hN
  clear h hE hN c0 c1 c4
  by_cases h1 : z < 1
  · have t1 : decide (z < 1) = true := by simpa using h1
    clear hno h1 hz
    go_enter Try.func52, Try.ntmps52
    go_wp2_with fail
    go_ret2
    exact ⟨rfl, rfl⟩
  have t1 : decide (z < 1) = false := by simpa using h1
  by_cases h2 : (N : Int) ≤ z
  · have t2 : decide ((N : Int) ≤ z) = true := by simpa using h2
    clear hno h1 h2 hz
    go_enter Try.func52, Try.ntmps52
    go_wp2_with fail
    go_ret2
    exact ⟨rfl, rfl⟩
  obtain ⟨id, rfl⟩ : ∃ id : Nat, z = id := ⟨z.toNat, by omega⟩
  have hid : id < N := by omega
  obtain ⟨x, hx⟩ : ∃ x, E[id]? = some x := ⟨E[id]'(by rw [← HN.out]; exact hid), by simp⟩
  have hu : x.users = 0 := by have := hz id x hx; have := hno id x; unfold Used at this; simp only [hx, true_and] at this; omega
  have hus := HH.out.us
  rw [← HN.out] at hus
  obtain ⟨gu, rfl, _, hgu⟩ := hus.some_ (by omega)
  have q1 := hus.cell id (by omega)
  rw [usCs_at hx, hu] at q1
  have t2 : decide ((N : Int) ≤ (id : Int)) = false := by simp; omega
  have hiI : (id : Int) < (N : Int) := by omega
  have hi00 : (0 : Int) ≤ (id : Int) := by omega
  clear hno h1 h2 hz hx hu hus
  go_enter Try.func52, Try.ntmps52
  go_wp2_with fail
  go_ret2
  exact ⟨rfl, rfl⟩
set_option maxRecDepth 100000 in
theorem rprelease_bad (h : RPm w F p b n E KA kc UA uc TA tc) (hE : E.length ≤ 1000000) (hz : ∀ (id : Nat) (e : PE), E[id]? = some e → 0 ≤ e.users) (z : Int) (hb : -9223372036854775808 ≤ z ∧ z < 9223372036854775808) (hno : ∀ id x, ¬ Used E z id x) :
    Calls Try.prog 51 #[.pointer (some ⟨p, 0, none⟩), .int .i64 z] w fun e w' => e = .returned (.int .i64 8) ∧ w' = w := by
  obtain ⟨N, hN⟩ : ∃ N, N = E.length := ⟨_, rfl⟩
  have hEN : N ≤ 1000000 := by omega
  obtain ⟨⟨c0, c1, c2, c3, c4⟩, hpl⟩ := h.cells N hN
  have HH := hide h
  have HN := hide hN
  clear h hE hN c0 c1 c4
  by_cases h1 : z < 1
  · have t1 : decide (z < 1) = true := by simpa using h1
    clear hno h1 hz
    go_enter Try.func51, Try.ntmps51
    go_wp2_with fail
    go_ret
    exact ⟨rfl, rfl⟩
  have t1 : decide (z < 1) = false := by simpa using h1
  by_cases h2 : (N : Int) ≤ z
  · have t2 : decide ((N : Int) ≤ z) = true := by simpa using h2
    clear hno h1 h2 hz
    go_enter Try.func51, Try.ntmps51
    go_wp2_with fail
    go_ret
    exact ⟨rfl, rfl⟩
  obtain ⟨id, rfl⟩ : ∃ id : Nat, z = id := ⟨z.toNat, by omega⟩
  have hid : id < N := by omega
  obtain ⟨x, hx⟩ : ∃ x, E[id]? = some x := ⟨E[id]'(by rw [← HN.out]; exact hid), by simp⟩
  have hu : x.users = 0 := by have := hz id x hx; have := hno id x; unfold Used at this; simp only [hx, true_and] at this; omega
  have hus := HH.out.us
  rw [← HN.out] at hus
  obtain ⟨gu, rfl, _, hgu⟩ := hus.some_ (by omega)
  have q1 := hus.cell id (by omega)
  rw [usCs_at hx, hu] at q1
  have t2 : decide ((N : Int) ≤ (id : Int)) = false := by simp; omega
  have hiI : (id : Int) < (N : Int) := by omega
  have hi00 : (0 : Int) ≤ (id : Int) := by omega
  clear hno h1 h2 hz hx hu hus
  go_enter Try.func51, Try.ntmps51
  go_wp2_with fail
  go_ret
  exact ⟨rfl, rfl⟩
end
end Go.Proofs.Ytidobhflijdccaa

set_option linter.unusedVariables false
set_option linter.unusedSimpArgs false
namespace Go.Proofs.Ytidobhflijdccaa
open Go.RowKit Cfp
theorem rel_live {s : Ar} {L : Nat → List Nat} {ρ : RA} (h : Rel (er s) L ρ) {i k : Nat} {g : Int} {d : List UInt8} (lv : LV s i k g d) : ∃ (j : Nat) (x : RSl), rfindN ρ i k g = j ∧ ρ.slots[j]? = some x ∧ x.c = i ∧ x.k = k ∧ x.age = g ∧ x.used = true := by
  have h1 : LV (er s) i k g [] := svw_LV.2 (by rw [svw_er, svw_LV.1 lv]; rfl)
  obtain ⟨j, hj⟩ : ∃ j, rfindN ρ i k g = j := ⟨_, rfl⟩
  have hjl : j ≤ ρ.slots.length := by rw [← hj]; exact List.findIdx_le_length
  rcases Nat.lt_or_ge j ρ.slots.length with hl | hl
  · obtain ⟨x, hx⟩ : ∃ x, ρ.slots[j]? = some x := ⟨_, List.getElem?_eq_getElem hl⟩
    obtain ⟨e1, e2, e3, hu, _⟩ := h.find_yes hj hx
    exact ⟨j, x, hj, hx, by omega, by omega, e3.symm, hu⟩
  · exact absurd h1 (h.find_no (hj.trans (by omega)) i k [] rfl rfl)
section
variable {w : World} {F : Nat → Prop} {p b : Nat} {n : Int} {E : List PE} {ρ : RA}
theorem RG.ro {KA UA TA : Option Addr} {k : Nat} (h : inB UA k) : RO (RG F p KA UA TA) w k := .inl (.inr (.inr (.inr (.inl h))))
set_option maxRecDepth 100000 in
set_option maxHeartbeats 1000000 in
theorem rprelease_some (h : IsRP w F p b n E ρ) (hE : E.length ≤ 1000000) (id : Nat) (x : PE) (h1 : 1 ≤ id) (hx : E[id]? = some x) (hu : 1 < x.users) (hu2 : x.users ≤ 1000000) :
    Calls Try.prog 51 #[.pointer (some ⟨p, 0, none⟩), .int .i64 id] w fun e w' => e = .returned (.int .i64 0) ∧ IsRP w' F p b n (E.set id { x with users := x.users - 1 }) ρ ∧ Keeps (RPS F w) w w' := by
  obtain ⟨KA, kc, UA, uc, TA, tc, h, hA⟩ := h
  obtain ⟨N, hN⟩ : ∃ N, N = E.length := ⟨_, rfl⟩
  have hid : id < N := by rw [hN]; exact (List.getElem?_eq_some_iff.1 hx).1
  have hEN : N ≤ 1000000 := by omega
  obtain ⟨⟨c0, c1, c2, c3, c4⟩, hpl⟩ := h.cells N hN
  obtain ⟨gu, rfl, _, hgu⟩ := h.us.some_ (by omega)
  have q1 := h.us.cell id (by omega)
  have f1 := h.us.frozen id
  rw [usCs_at hx] at q1
  have t1 : decide ((id : Int) < 1) = false := by simp; omega
  have t2 : decide ((N : Int) ≤ (id : Int)) = false := by simp; omega
  have t3 : (x.users == 0) = false := by simp; omega
  have hiI : (id : Int) < (N : Int) := by omega
  have hi00 : (0 : Int) ≤ (id : Int) := by omega
  have ws : IntKind.i64.wrap (x.users - 1) = x.users - 1 := IntWalk.i64_in _ (by omega)
  have h2 := h.users hx (x.users - 1)
  have k2 := keepsOne w gu id (.int .i64 (x.users - 1))
  have hgi : inB (some ⟨gu, 0, none⟩ : Option Addr) gu := ⟨_, rfl, rfl⟩
  have hA2 := hA.kept k2 (fun q e => by subst e; exact RG.ro hgi)
  have K2 := hide (k2.weak (S' := RPS F w) (fun q _ e => by subst e; exact h.inU hgi))
  have H2 := hide h2
  have HA2 := hide hA2
  have HN := hide hN
  have HX := hide hx
  clear h hA h2 hA2 hx hN hgi hE
  obtain ⟨w2, hw2⟩ : ∃ w2, w2 = w.setCell ⟨gu, id, none⟩ (.int .i64 (x.users - 1)) := ⟨_, rfl⟩
  rw [← hw2] at H2 HA2 K2 k2
  have HW2 := hide hw2
  clear hw2
  go_enter Try.func51, Try.ntmps51
  go_upto_region 4 with fail
  rw [← HW2.out]
  clear c0 c1 c2 c3 c4 q1 f1 hpl hgu HW2
  have hl2 : N = (E.set id { x with users := x.users - 1 }).length := by rw [List.length_set]; exact HN.out
  obtain ⟨⟨c0, c1, c2, c3, c4⟩, hpl⟩ := H2.out.cells N hl2
  have us2 := H2.out.us
  rw [← hl2] at us2
  have q1 := us2.cell id (by omega)
  rw [usCs_at (x := { x with users := x.users - 1 }) (by have := HN.out; simp [show id < E.length by omega])] at q1
  dsimp only at q1
  have t4 : (x.users - 1 == 0) = false := by simp; omega
  clear us2 hl2
  go_wp2_with fail
  go_ret
  exact ⟨rfl, ⟨_, _, _, _, _, _, H2.out, HA2.out⟩, K2.out⟩
set_option maxRecDepth 100000 in
set_option maxHeartbeats 1000000 in
theorem rprelease_last (h : IsRP w F p b n E ρ) (hE : E.length ≤ 1000000) (id : Nat) (x : PE) (h1 : 1 ≤ id) (hx : E[id]? = some x) (hu : x.users = 1) (hF : ∀ q, F q → q < w.heap.size) (h5 : ρ.slots.length ≤ 1000000) (h6 : ρ.free.length ≤ 1000000) (j : Nat) (y : RSl) (hj : rfindN ρ x.h.1 x.h.2.1 x.h.2.2 = j) (hy : ρ.slots[j]? = some y) :
    Calls Try.prog 51 #[.pointer (some ⟨p, 0, none⟩), .int .i64 id] w fun e w' => e = .returned (.int .i64 0) ∧ IsRP w' F p b n (E.set id { x with users := 0 }) { ρ with slots := ρ.slots.set j { y with used := false }, free := ρ.free ++ [j] } ∧ Keeps (RPS F w) w w' := by
  have HF := hide hF
  have HJ := hide hj
  have HY := hide hy
  have H56 := hide (And.intro h5 h6)
  obtain ⟨hu1, hu2⟩ : 1 ≤ x.users ∧ x.users ≤ 1 := ⟨by omega, by omega⟩
  clear hF hj hy h5 h6 hu
  obtain ⟨KA, kc, UA, uc, TA, tc, h, hA⟩ := h
  obtain ⟨N, hN⟩ : ∃ N, N = E.length := ⟨_, rfl⟩
  have hid : id < N := by rw [hN]; exact (List.getElem?_eq_some_iff.1 hx).1
  have hEN : N ≤ 1000000 := by omega
  obtain ⟨⟨c0, c1, c2, c3, c4⟩, hpl⟩ := h.cells N hN
  obtain ⟨gu, rfl, _, hgu⟩ := h.us.some_ (by omega)
  have q1 := h.us.cell id (by omega)
  have f1 := h.us.frozen id
  rw [usCs_at hx] at q1
  have t1 : decide ((id : Int) < 1) = false := by simp; omega
  have t2 : decide ((N : Int) ≤ (id : Int)) = false := by simp; omega
  have t3 : (x.users == 0) = false := by simp; omega
  have hiI : (id : Int) < (N : Int) := by omega
  have hi00 : (0 : Int) ≤ (id : Int) := by omega
  have ws : IntKind.i64.wrap (x.users - 1) = x.users - 1 := IntWalk.i64_in _ (by omega)
  have h2 := h.users hx (x.users - 1)
  have k2 := keepsOne w gu id (.int .i64 (x.users - 1))
  have hgi : inB (some ⟨gu, 0, none⟩ : Option Addr) gu := ⟨_, rfl, rfl⟩
  have hA2 := hA.kept k2 (fun q e => by subst e; exact RG.ro hgi)
  have K2 := hide (k2.weak (S' := RPS F w) (fun q _ e => by subst e; exact h.inU hgi))
  have H2 := hide h2
  have HA2 := hide hA2
  have HN := hide hN
  have HX := hide hx
  clear h hA h2 hA2 hx hN hgi hE
  obtain ⟨w2, hw2⟩ : ∃ w2, w2 = w.setCell ⟨gu, id, none⟩ (.int .i64 (x.users - 1)) := ⟨_, rfl⟩
  rw [← hw2] at H2 HA2 K2 k2
  have HW2 := hide hw2
  clear hw2
  go_enter Try.func51, Try.ntmps51
  go_upto_region 4 with fail
  rw [← HW2.out]
  clear c0 c1 c2 c3 c4 q1 f1 hpl hgu HW2
  have hl2 : N = (E.set id { x with users := x.users - 1 }).length := by rw [List.length_set]; exact HN.out
  obtain ⟨⟨c0, c1, c2, c3, c4⟩, hpl⟩ := H2.out.cells N hl2
  have us2 := H2.out.us
  rw [← hl2] at us2
  have q1 := us2.cell id (by omega)
  rw [usCs_at (x := { x with users := x.users - 1 }) (by have := HN.out; simp [show id < E.length by omega])] at q1
  dsimp only at q1
  have e0 : x.users - 1 = 0 := by omega
  rw [e0] at H2 q1
  clear us2 t3 ws e0 hl2 hu1 hu2
  have HGG : Hid (∀ q, RG F p KA (some ⟨gu, 0, none⟩) TA q → q < w2.heap.size) := hide (fun q hq => by
    rcases hq with hq | hq | hq | hq | hq
    · have := HF.out q hq; have := k2.size; omega
    · rw [hq]; exact H2.out.blk.lt
    · exact (H2.out.ks.inB hq).2
    · exact (H2.out.us.inB hq).2
    · exact (H2.out.ts.inB hq).2)
  have hts := H2.out.ts
  have hlen : (E.set id { x with users := 0 }).length = N := by rw [List.length_set]; exact HN.out.symm
  rw [hlen] at hts
  obtain ⟨gt, rfl, _, hgt⟩ := hts.some_ (by omega)
  obtain ⟨g0, g1, g2⟩ := pehCs_at (E := E.set id { x with users := 0 }) (x := { x with users := 0 }) (i := id) (by have := HN.out; simp [show id < E.length by omega])
  have r0 := hts.cell (id * 3) (by omega)
  have r1 := hts.cell (id * 3 + 1) (by omega)
  have r2 := hts.cell (id * 3 + 2) (by omega)
  rw [g0] at r0
  rw [g1] at r1
  rw [g2] at r2
  dsimp only at r0 r1 r2
  have HFr : Hid (∀ wa, Keeps (fun _ => False) w2 wa → Calls Try.prog 30 #[.pointer (some ⟨b, 0, none⟩), .agg #[.int .i64 x.h.1, .int .i64 x.h.2.1, .int .i64 x.h.2.2]] wa fun e w' => e = .returned (.int .i64 0) ∧ Hid (IsRP w' F p b n (E.set id { x with users := 0 }) { ρ with slots := ρ.slots.set j { y with used := false }, free := ρ.free ++ [j] } ∧ Keeps (RPS F w) w w')) := hide (fun wa ka => by
    obtain ⟨LA, lc, SA, sc, FA, fc, q, hm⟩ := HA2.out.quiet ka
    refine (rfree_yes wa _ b ρ LA lc SA sc FA fc q _ _ _ j y hm H56.out.1 H56.out.2 (fun q hq => by have := HGG.out q hq; have := ka.size; omega) HJ.out HY.out).mono ?_
    rintro e w' ⟨rfl, r3, k3⟩
    exact ⟨rfl, ⟨_, _, _, _, _, _, (H2.out.quiet ka).arena k3, r3⟩, RPS.trans (K2.out.step0 ka) (k3.weak (fun _ _ h => RS.rps h))⟩)
  clear g0 g1 g2 hts hlen hgt HGG HF HJ HY H56 H2 HA2 K2 k2
  go_upto_region 5 with fail
  trace "R5"
  go_region_with ((go_at_call 30; refine (HFr.out _ (by first | exact Keeps.refl _ _ | exact (Keeps.refl _ _).drew | exact (Keeps.refl _ _).drewN _)).mono ?_; rintro e w5 ⟨rfl, HR⟩))
  all_goals
    go_wp2_with fail
    go_ret
    exact ⟨rfl, HR.out⟩
end
end Go.Proofs.Ytidobhflijdccaa
