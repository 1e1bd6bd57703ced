/-
  Parts: The steps of drawn regio. No conditions beyond those of the statement.
-/
import Derived.Test.YtjamiaamngalgaaGreatRows
import Derived.WalkKit
import Derived.ProofKit
import Derived.Lib.Hide
import Derived.Deep.QuietTactic
import Derived.BigQuiet
import Derived.Outline
import Derived.Deep.Draws
import Derived.OrdersHeld
import Derived.RegionTactic
import Derived.Deep.RegionHeld
import Derived.Deep.RegionHeld3
set_option linter.unusedVariables false
set_option linter.unusedSimpArgs false
set_option maxRecDepth 1000000
set_option maxHeartbeats 4000000
namespace Go.Proofs.YtjamiaamngalgaaGreat
open Go.RowKit
theorem Zpt:(∀(t:Array Value) ds (i:Nat) (v:Value),Act.put ⟨t,ds⟩ (some i) v=⟨t.setIfInBounds i v,ds⟩)∧(∀(a:Act) (v:Value),Act.put a none v=a)∧(∀(α:Type) (l:List α) (i:Nat) (h:i<l.toArray.size),l.toArray[i]'h=l[i]'(by simpa using h))∧
  (∀(α:Type) (x:α) (l:List α) (i:Nat) (h:i+1<(x :: l).length),(x :: l)[i+1]'h=l[i]'(by simpa using h))∧(∀(α:Type) (x:α) (l:List α) (h:0<(x :: l).length),(x :: l)[0]'h=x)∧
  (∀(l:List Value) (i:Nat) (v:Value),l.toArray.setIfInBounds i v=(l.set i v).toArray)∧(∀(x y:Value) (l:List Value),(x :: l).set 0 y=y :: l)∧(∀(x y:Value) (l:List Value) (n:Nat),(x :: l).set (n+1) y=x :: l.set n y):=
 ⟨fun _ _ _ _=> rfl,fun _ _=> rfl,fun _ _ _ _=> by simp,fun _ _ _ _ _=> rfl,fun _ _ _ _=> rfl,fun _ _ _=> by simp,fun _ _ _=> rfl,fun _ _ _ _=> rfl⟩
theorem Zpg:(∀(l:List Value) (i:Nat),l.toArray[i]?=l[i]?)∧(∀(x:Value) (l:List Value),(x :: l)[0]?=some x)∧(∀(x:Value) (l:List Value) (i:Nat),(x :: l)[i+1]?=l[i]?):=⟨fun _ _=> by simp,fun _ _=> rfl,fun _ _ _=> rfl⟩
theorem ptS (t:Array Value) (ds) (i:Nat) (v:Value):Act.put ⟨t,ds⟩ (some i) v=⟨t.setIfInBounds i v,ds⟩:=rfl
theorem ptN (a:Act) (v:Value):Act.put a none v=a:=rfl
section
variable {P:Program} {ops:Array Oper} {Q:Exit→Act→World→Prop} {md:Region.Mode} {S:World→Prop}
theorem tkH (i:Nat) {oi:Oper} {v:Value} {fuel:Nat} {listed:Array Bool} {a a':Act} {w:World}
  (h:wpAnyH P md ops Q S fuel (listed.setIfInBounds i true) a' w)
  (hi:ops[i]?=some oi:=by rfl)
  (hs:Region.noSelect ops=true:=by kernel_rfl) (hf:Region.free md ops listed i=true:=by kernel_rfl) (hr:(Region.ready md ops listed).contains i=true:=by kernel_rfl)
  (hS:S w:=by assumption)
  (hg:Region.wanted oi (yielded ops a.tmps)=true:=by first | kernel_rfl | rfl)
  (hy:∀w,S w→(execOp a.eval oi).run P w= .ok (.value v) w:=by(intro w hSw; (try dsimp only at hSw);go_simp;try (with_reducible rfl)))
  (ha:a.put oi.dst v=a':=by((try simp only [Zpt]);try rfl))
  (hQ:∀c a w,Q (.panic c) (a.put oi.dst v) w→Q (.panic c) a w:=by exact fun _ _ _ h=> h):
  wpAnyH P md ops Q S (fuel+1) listed a w:=
 wpAnyH_take hi hs hf hr hQ (.inl ⟨hg,hy⟩) hS (by rw [ha];exact h)
theorem rd1 (i:Nat) {o:Oper} {fuel:Nat} {listed:Array Bool} {a:Act} {w:World}
  (h:∀K':Act→World→Prop,Shut (∀a w,S w→(S w→wpAnyH P md ops Q S fuel (listed.setIfInBounds i true) a w)→K' a w)→if Region.wanted o (yielded ops a.tmps)=true then Oper.wp P o a w K' Q else K' (a.put o.dst undef) w)
  (hr:Region.ready md ops listed= [i]:=by kernel_rfl) (ho:ops[i]?=some o:=by rfl):wpAnyH P md ops Q S (fuel+1) listed a w:=
 wpAnyH_ready hr (by simp) (AllReadyH.cons ho h AllReadyH.nil)
theorem tkA (i:Nat) {oi:Oper} {v:Value} {fuel:Nat} {listed:Array Bool} {a a':Act} {w:World}
  (h:wpAnyH P md ops Q S fuel (listed.setIfInBounds i true) a' w)
  (hi:ops[i]?=some oi:=by rfl)
  (hs:Region.noSelect ops=true:=by kernel_rfl) (hf:Region.free md ops listed i=true:=by kernel_rfl) (hr:(Region.ready md ops listed).contains i=true:=by kernel_rfl)
  (hS:S w:=by assumption)
  (hg:Region.wanted oi (yielded ops a.tmps)=true:=by first | kernel_rfl | rfl)
  (hy:∀w,S w→(execOp a.eval oi).run P w= .ok (.value v) w:=by(intro w hSw; (try dsimp only at hSw);clear hSw;go_simp;try (with_reducible rfl)))
  (ha:a.put oi.dst v=a':=by((try simp only [Zpt]);try rfl))
  (hQ:∀c a w,Q (.panic c) (a.put oi.dst v) w→Q (.panic c) a w:=by first | exact fun _ _ _ h=> absurd rfl (h.1 _) | exact fun _ _ _ h=> h):
  wpAnyH P md ops Q S (fuel+1) listed a w:=
 wpAnyH_take hi hs hf hr hQ (.inl ⟨hg,hy⟩) hS (by rw [ha];exact h)
end
end Go.Proofs.YtjamiaamngalgaaGreat
