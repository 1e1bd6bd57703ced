/-
  The reference's arena in memory. No conditions beyond those of the statement.
-/
import Derived.Test.YtidobhflijdccaaJb
import Derived.Test.YtidobhflijdccaaJc
set_option linter.unusedVariables false
set_option linter.unusedSimpArgs false
namespace Go.Proofs.Ytidobhflijdccaa
open Go.RowKit Cfp
def rslC (x : RSl) : List Value := [.int .i64 (x.c : Int), .int .i64 (x.k : Int), .int .i64 x.age, .bool x.used, .slice x.D x.b.length x.dc]
def rslCs (l : List RSl) : List Value := l.flatMap rslC
theorem rslCs_len (l : List RSl) : (rslCs l).length = l.length * 5 := flat_len _ 5 (fun _ => rfl) l
theorem rslCs_at {l : List RSl} {i : Nat} {x : RSl} (h : l[i]? = some x) : (rslCs l)[i * 5]? = some (.int .i64 (x.c : Int)) ∧ (rslCs l)[i * 5 + 1]? = some (.int .i64 (x.k : Int)) ∧ (rslCs l)[i * 5 + 2]? = some (.int .i64 x.age) ∧ (rslCs l)[i * 5 + 3]? = some (.bool x.used) ∧ (rslCs l)[i * 5 + 4]? = some (.slice x.D x.b.length x.dc) :=
  ⟨flat_get _ 5 (fun _ => rfl) l i 0 x h (by omega), flat_get _ 5 (fun _ => rfl) l i 1 x h (by omega), flat_get _ 5 (fun _ => rfl) l i 2 x h (by omega), flat_get _ 5 (fun _ => rfl) l i 3 x h (by omega), flat_get _ 5 (fun _ => rfl) l i 4 x h (by omega)⟩
theorem rslCs_set {l : List RSl} {i k : Nat} {x y : RSl} {v : Value} (h : l[i]? = some x) (hk : k < 5) (hy : rslC y = (rslC x).set k v) : (rslCs l).set (i * 5 + k) v = rslCs (l.set i y) := flat_set _ 5 (fun _ => rfl) l i k x y v h hk hy
theorem rslCs_app (l m : List RSl) : rslCs (l ++ m) = rslCs l ++ rslCs m := List.flatMap_append
theorem rslC_one (x : RSl) : ∀ u ∈ rslC x, u.oneCell' = true := by intro u hu; simp [rslC] at hu; rcases hu with rfl | rfl | rfl | rfl | rfl <;> rfl
theorem rslCs_one (l : List RSl) : ∀ u ∈ rslCs l, u.oneCell' = true := by
  intro u hu
  unfold rslCs at hu
  rw [List.mem_flatMap] at hu
  obtain ⟨c, _, hu⟩ := hu
  exact rslC_one c u hu
theorem elemRsl : ElemOf Try.prog 134 139 5 56 := ElemOf.mk' (z := .agg #[.int .i64 0, .int .i64 0, .int .i64 0, .bool false, .slice none 0 0]) Try.underlying134 (by kernel_rfl) rfl (by omega)
abbrev intCs (l : List Nat) : List Value := l.map fun (j : Nat) => Value.int .i64 (j : Int)
theorem intCs_at {l : List Nat} {i j : Nat} (h : l[i]? = some j) : (intCs l)[i]? = some (.int .i64 (j : Int)) := by rw [List.getElem?_map, h]; rfl
theorem intCs_one (l : List Nat) : ∀ u ∈ intCs l, u.oneCell' = true := by
  intro u hu
  obtain ⟨j, _, rfl⟩ := List.mem_map.1 hu
  rfl
/-- block b holds the reference's arena ρ; what is in G is none of its own -/
structure RAm (w : World) (G : Nat → Prop) (b : Nat) (ρ : RA) (LA : Option Addr) (lc : Nat) (SA : Option Addr) (sc : Nat) (FA : Option Addr) (fc q : Nat) : Prop where
  blk : Blk w b 136 #[.slice LA ρ.sh.length lc, .slice SA ρ.slots.length sc, .slice FA ρ.free.length fc, .slice (some ⟨q, 0, none⟩) ρ.next.length ρ.next.length, .int .i64 ρ.faults]
  ls : Own w 0 37 2 LA ρ.sh.length lc (prs ρ.sh)
  sl : Own w 0 139 5 SA ρ.slots.length sc (rslCs ρ.slots)
  fr : Own w 0 3 1 FA ρ.free.length fc (intCs ρ.free)
  nx : Blk w q 3 (intCs ρ.next).toArray
  da : ∀ x ∈ ρ.slots, Own w 0 5 1 x.D x.b.length x.dc (x.b.map by8)
  fq : ¬ inB FA q
  gb : ¬ G b
  gq : ¬ G q
  gs : ∀ k, inB SA k → ¬ G k
  gf : ∀ k, inB FA k → ¬ G k
  gl : ∀ k, inB LA k → ¬ G k
  gd : ∀ x ∈ ρ.slots, ∀ k, inB x.D k → ¬ G k
def IsRA (w : World) (G : Nat → Prop) (b : Nat) (ρ : RA) : Prop := ∃ LA lc SA sc FA fc q, RAm w G b ρ LA lc SA sc FA fc q
/-- what the reference's arena writes -/
def RS (G : Nat → Prop) (w : World) (k : Nat) : Prop := ¬ G k ∧ ∃ cs t, Blk w k t cs ∧ (t = 136 ∨ t = 139 ∨ t = 3)
/-- what it does not mind -/
def RO (G : Nat → Prop) (w : World) (k : Nat) : Prop := G k ∨ ∃ cs t, Blk w k t cs ∧ t ≠ 136 ∧ t ≠ 139 ∧ t ≠ 3 ∧ t ≠ 37 ∧ t ≠ 5
section
variable {w w' : World} {G S : Nat → Prop} {b : Nat} {ρ : RA} {LA SA FA : Option Addr} {lc sc fc q : Nat}
theorem RO.own {e : TypeId} {sz n c k : Nat} {A : Option Addr} {xs : List Value} (h : RO G w k) (o : Own w 0 e sz A n c xs) (hG : ∀ k, inB A k → ¬ G k) (he : e = 139 ∨ e = 3 ∨ e = 37 ∨ e = 5) : ¬ inB A k := by
  intro hb
  rcases h with h | ⟨cs, t, h1, h2, h3, h4, h5, h6⟩
  · exact hG k hb h
  · obtain ⟨cs', hb'⟩ := o.blk hb
    have := blk_type h1 hb'
    rcases he with rfl | rfl | rfl | rfl
    · exact h3 this
    · exact h4 this
    · exact h5 this
    · exact h6 this
theorem RO.blk {t : TypeId} {k : Nat} {cs : Array Value} (h : RO G w k) (o : Blk w k t cs) (hG : ¬ G k) (he : t = 136 ∨ t = 3) : False := by
  rcases h with h | ⟨cs', t', h1, h2, h3, h4, h5, h6⟩
  · exact hG h
  · have := blk_type h1 o
    rcases he with rfl | rfl
    · exact h2 this
    · exact h4 this
theorem RAm.kept (h : RAm w G b ρ LA lc SA sc FA fc q) (k : Keeps S w w') (hS : ∀ k, S k → RO G w k) : RAm w' G b ρ LA lc SA sc FA fc q :=
  ⟨h.blk.kept k (fun e => (hS _ e).blk h.blk h.gb (.inl rfl)), h.ls.kept k (fun p hp e => (hS _ e).own h.ls h.gl (.inr (.inr (.inl rfl))) hp), h.sl.kept k (fun p hp e => (hS _ e).own h.sl h.gs (.inl rfl) hp), h.fr.kept k (fun p hp e => (hS _ e).own h.fr h.gf (.inr (.inl rfl)) hp),
    h.nx.kept k (fun e => (hS _ e).blk h.nx h.gq (.inr rfl)), fun x hx => (h.da x hx).kept k (fun p hp e => (hS _ e).own (h.da x hx) (h.gd x hx) (.inr (.inr (.inr rfl))) hp), h.fq, h.gb, h.gq, h.gs, h.gf, h.gl, h.gd⟩
theorem IsRA.kept (h : IsRA w G b ρ) (k : Keeps S w w') (hS : ∀ k, S k → RO G w k) : IsRA w' G b ρ := by
  obtain ⟨LA, lc, SA, sc, FA, fc, q, h⟩ := h
  exact ⟨LA, lc, SA, sc, FA, fc, q, h.kept k hS⟩
theorem IsRA.quiet (h : IsRA w G b ρ) (k : Keeps (fun _ => False) w w') : IsRA w' G b ρ := h.kept k (fun _ h => h.elim)
theorem RAm.quiet (h : RAm w G b ρ LA lc SA sc FA fc q) (k : Keeps (fun _ => False) w w') : RAm w' G b ρ LA lc SA sc FA fc q := h.kept k (fun _ h => h.elim)
theorem RS.trans {w0 : World} (h : Keeps (RS G w0) w0 w) (k : Keeps (RS G w) w w') : Keeps (RS G w0) w0 w' := h.step k (fun p hp ⟨h1, cs, t, h2, h3⟩ => by
  by_cases e : RS G w0 p
  · exact e
  · exact ⟨h1, cs, t, by have := h.block p hp e; exact this.symm.trans h2, h3⟩)
theorem RS.quiet {w0 : World} (h : Keeps (fun _ => False) w0 w) (k : Keeps (RS G w) w w') : Keeps (RS G w0) w0 w' := RS.trans (h.weak (fun _ _ h => h.elim)) k
theorem RS.arena (h : RAm w G b ρ LA lc SA sc FA fc q) : RS G w b := ⟨h.gb, _, _, h.blk, .inl rfl⟩
theorem RS.next (h : RAm w G b ρ LA lc SA sc FA fc q) : RS G w q := ⟨h.gq, _, _, h.nx, .inr (.inr rfl)⟩
theorem RS.slots (h : RAm w G b ρ LA lc SA sc FA fc q) {k : Nat} (hk : inB SA k) : RS G w k := by
  obtain ⟨cs, hb⟩ := h.sl.blk hk
  exact ⟨h.gs k hk, _, _, hb, .inr (.inl rfl)⟩
theorem RS.free (h : RAm w G b ρ LA lc SA sc FA fc q) {k : Nat} (hk : inB FA k) : RS G w k := by
  obtain ⟨cs, hb⟩ := h.fr.blk hk
  exact ⟨h.gf k hk, _, _, hb, .inr (.inr rfl)⟩
end
end Go.Proofs.Ytidobhflijdccaa
