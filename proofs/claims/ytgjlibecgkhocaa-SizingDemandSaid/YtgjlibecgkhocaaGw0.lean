/-
  Regions of guarded operations, one operation after the other. No conditions beyond those of the statement.
-/
import Derived.Test.YtgjlibecgkhocaaLd0
import Derived.Deep.CutRange
import Derived.Deep.CutBlock
set_option linter.unusedVariables false
set_option linter.unusedSimpArgs false
namespace Go.Proofs.Ytgjlibecgkhocaa
open Go.RowKit Cfp
section
variable {P : Program} {ops : Array Oper} {Q : Exit → Act → World → Prop} {a : Act} {w : World} {rest : List Oper} {o : Oper}
theorem wl_want (hw : Region.wanted o (yielded ops a.tmps) = true) (h : o.wp P a w (wpList P ops Q rest) Q) : wpList P ops Q (o :: rest) a w := by
  show if Region.wanted o (yielded ops a.tmps) then _ else _
  rw [if_pos hw]
  exact .inl h
theorem wl_val {v : Value} (hw : Region.wanted o (yielded ops a.tmps) = true) (hr : (execOp a.eval o).run P w = .ok (.value v) w) (h : wpList P ops Q rest (a.put o.dst v) w) : wpList P ops Q (o :: rest) a w :=
  wl_want hw (by unfold Oper.wp; rw [hr]; exact h)
/-- a row of operations of which each is left out, or a move, or a choice that is known -/
def sk (ops : Array Oper) : List Oper → Act → Option Act
  | [], a => some a
  | o :: l, a =>
    match Region.wanted o (yielded ops a.tmps) with
    | false => sk ops l (a.put o.dst undef)
    | true => match o.op with
      | .move x => sk ops l (a.put o.dst (a.eval x))
      | .pick c x y => match a.eval c with
        | .bool true => sk ops l (a.put o.dst (a.eval x))
        | .bool false => sk ops l (a.put o.dst (a.eval y))
        | _ => none
      | _ => none
theorem sk_ok : ∀ (l : List Oper) (a a' : Act), sk ops l a = some a' → Q .normal a' w → wpList P ops Q l a w
  | [], a, a', h, hq => by
    simp only [sk, Option.some.injEq] at h
    subst h
    exact hq
  | o :: l, a, a', h, hq => by
    rw [sk] at h
    split at h
    · next hw =>
      show if Region.wanted o (yielded ops a.tmps) then _ else _
      rw [if_neg (by simp [hw])]
      exact sk_ok l _ a' h hq
    · next hw =>
      split at h
      · next x hx => exact wl_val hw (by simp [execOp, hx, Sem.run_bind, Sem.run_pure, asBool]) (sk_ok l _ a' h hq)
      · next c x y hx =>
        split at h
        · next hc => exact wl_val hw (by simp [execOp, hx, hc, Sem.run_bind, Sem.run_pure, asBool]) (sk_ok l _ a' h hq)
        · next hc => exact wl_val hw (by simp [execOp, hx, hc, Sem.run_bind, Sem.run_pure, asBool]) (sk_ok l _ a' h hq)
        · cases h
      · cases h
theorem sk_end {N i : Nat} {v : Value} (l : List Oper) (a : Act) (h : (sk ops l a).map (fun x => (x.tmps.getD i undef, x.tmps.size, x.defers)) = some (v, N, [])) (hq : ∀ tm : Array Value, tm.size = N → tm.getD i undef = v → Q .normal ⟨tm, []⟩ w) : wpList P ops Q l a w := by
  rcases hs : sk ops l a with _ | ⟨tm, df⟩
  · rw [hs] at h; cases h
  · rw [hs] at h
    simp only [Option.map_some, Option.some.injEq, Prod.mk.injEq] at h
    obtain ⟨h1, h2, rfl⟩ := h
    exact sk_ok l a _ hs (hq tm h2 h1)
theorem wl_skip (hw : Region.wanted o (yielded ops a.tmps) = false) (h : wpList P ops Q rest (a.put o.dst undef) w) : wpList P ops Q (o :: rest) a w := by
  show if Region.wanted o (yielded ops a.tmps) then _ else _
  rw [if_neg (by simp [hw])]
  exact h
theorem wl_with {N i : Nat} {v : Value} (hq : ∀ tm : Array Value, tm.size = N → tm.getD i undef = v → Q .normal ⟨tm, []⟩ w) (h : Hid (∀ tm : Array Value, tm.size = N → tm.getD i undef = v → Q .normal ⟨tm, []⟩ w) → wpList P ops Q rest a w) : wpList P ops Q rest a w := h (hide hq)
theorem wl_nil (h : Q .normal a w) : wpList P ops Q [] a w := h
theorem wl_ldC {b off : Nat} {v : Value} {x : Operand} (ho : o.op = .load 25 x) (hw : Region.wanted o (yielded ops a.tmps) = true) (hx : a.eval x = .pointer (some ⟨b, off, none⟩)) (hc : w.cell? ⟨b, off, none⟩ = some v) (h : wpList Try.prog ops Q rest (a.put o.dst v) w) : wpList Try.prog ops Q (o :: rest) a w := by
  refine wl_want hw ?_
  unfold Oper.wp execOp
  simp only [ho, hx]
  go_simp
  exact h
theorem wl_ld {b off : Nat} {v : Value} {x : Operand} (ho : o.op = .load 3 x) (hw : Region.wanted o (yielded ops a.tmps) = true) (hx : a.eval x = .pointer (some ⟨b, off, none⟩)) (hc : w.cell? ⟨b, off, none⟩ = some v) (h : wpList Try.prog ops Q rest (a.put o.dst v) w) : wpList Try.prog ops Q (o :: rest) a w := by
  refine wl_want hw ?_
  unfold Oper.wp execOp
  simp only [ho, hx]
  go_simp
  exact h
end
end Go.Proofs.Ytgjlibecgkhocaa
