/-
  A pool in an arena of one class: what else is written does not touch it.
-/
import Derived.Test.YtidobhflijdccaaPs
set_option linter.unusedVariables false
set_option linter.unusedSimpArgs false
namespace Go.Proofs.Ytidobhflijdccaa
open Go.RowKit Cfp
theorem One.kept {w w' : World} {B p a mb : Nat} {n sz cnt : Int} {E : List PE} {EA : Option Addr} {cap : Nat} {D : KD} {s : Ar} {L : Nat → List Nat} {M M2 : Int} {S : Nat → Prop} (h : One w B p a mb n sz cnt E EA cap D s L M M2) (k : Keeps S w w') (h1 : ∀ b, S b → Other w B b) (h2 : ∀ b, S b → OthP w B b) : One w' B p a mb n sz cnt E EA cap D s L M M2 :=
  ⟨h.po.kept k h2, h.ar.kept k h1, h.iv, h.pv, h.sh, h.lv, h.fa, Nat.le_trans h.hB k.size⟩
theorem One.low {w w' : World} {B p a mb g : Nat} {n sz cnt : Int} {E : List PE} {EA : Option Addr} {cap : Nat} {D : KD} {s : Ar} {L : Nat → List Nat} {M M2 : Int} (h : One w B p a mb n sz cnt E EA cap D s L M M2) (k : Keeps (· = g) w w') (hg : g < B) : One w' B p a mb n sz cnt E EA cap D s L M M2 :=
  h.kept k (fun b e => .inl (by omega)) (fun b e => .inl (by omega))
/-- a slice of integers of the call's own is none of a pool's blocks -/
theorem Own.po {w : World} {base sz n c : Nat} {A : Option Addr} {xs : List Value} (h : Own w base 3 sz A n c xs) {B b : Nat} (hb : Go.Proofs.Ytidobhflijdccaa.inB A b) : ¬ PoS B w b := by
  obtain ⟨cs, h4⟩ := h.blk hb
  exact PoS.not h4 (by decide) (by decide) (by decide) (by decide) (by decide)
theorem One.own {w w' : World} {B p a mb : Nat} {n sz cnt : Int} {E : List PE} {EA : Option Addr} {cap : Nat} {D : KD} {s : Ar} {L : Nat → List Nat} {M M2 : Int} (h : One w B p a mb n sz cnt E EA cap D s L M M2) {base z k c : Nat} {A : Option Addr} {xs : List Value} (o : Own w base 3 z A k c xs) (kk : Keeps (inB A) w w') : One w' B p a mb n sz cnt E EA cap D s L M M2 :=
  h.kept kk (fun b hb => by obtain ⟨cs, h4⟩ := o.blk hb; exact .inr ⟨_, _, h4, by decide, by decide, by decide, by decide⟩) (fun b hb => by obtain ⟨cs, h4⟩ := o.blk hb; exact .inr ⟨_, _, h4, by decide, by decide⟩)
theorem One.ownS {w w' : World} {B p a mb : Nat} {n sz cnt : Int} {E : List PE} {EA : Option Addr} {cap : Nat} {D : KD} {s : Ar} {L : Nat → List Nat} {M M2 : Int} (h : One w B p a mb n sz cnt E EA cap D s L M M2) {base z k c : Nat} {A : Option Addr} {xs : List Value} (o : Own w base 9 z A k c xs) (kk : Keeps (inB A) w w') : One w' B p a mb n sz cnt E EA cap D s L M M2 :=
  h.kept kk (fun b hb => by obtain ⟨cs, h4⟩ := o.blk hb; exact .inr ⟨_, _, h4, by decide, by decide, by decide, by decide⟩) (fun b hb => by obtain ⟨cs, h4⟩ := o.blk hb; exact .inr ⟨_, _, h4, by decide, by decide⟩)
end Go.Proofs.Ytidobhflijdccaa
