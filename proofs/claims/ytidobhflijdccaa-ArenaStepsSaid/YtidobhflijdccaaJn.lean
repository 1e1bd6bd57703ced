/-
  ArenaSteps: the handles' slice, and what stands beside both arenas. No conditions beyond those of the statement.
-/
import Derived.Test.YtidobhflijdccaaJm
import Derived.Test.YtidobhflijdccaaBb
import Derived.Test.YtidobhflijdccaaBe
import Derived.Test.YtidobhflijdccaaBg
import Derived.Test.YtidobhflijdccaaUs
set_option linter.unusedVariables false
set_option linter.unusedSimpArgs false
namespace Go.Proofs.Ytidobhflijdccaa
open Go.RowKit Cfp
theorem i64_and31 (n : Int) : bits .and .i64 n 31 = n % 32 := by
  have h15 : (BitVec.ofInt 64 31).toNat = 2 ^ 5 - 1 := by decide
  have key : (BitVec.ofInt 64 n &&& BitVec.ofInt 64 31).toNat = (n % ((2 ^ 64 : Nat) : Int)).toNat % 2 ^ 5 := by
    rw [BitVec.toNat_and, BitVec.toNat_ofInt, h15, Nat.and_two_pow_sub_one_eq_mod]
  show IntKind.i64.wrap ((BitVec.ofInt 64 n &&& BitVec.ofInt 64 31).toNat : Nat) = n % 32
  rw [key, IntKind.wrap_i64]
  omega
theorem i64_and127 (n : Int) : bits .and .i64 n 127 = n % 128 := by
  have h15 : (BitVec.ofInt 64 127).toNat = 2 ^ 7 - 1 := by decide
  have key : (BitVec.ofInt 64 n &&& BitVec.ofInt 64 127).toNat = (n % ((2 ^ 64 : Nat) : Int)).toNat % 2 ^ 7 := by
    rw [BitVec.toNat_and, BitVec.toNat_ofInt, h15, Nat.and_two_pow_sub_one_eq_mod]
  show IntKind.i64.wrap ((BitVec.ofInt 64 n &&& BitVec.ofInt 64 127).toNat : Nat) = n % 128
  rw [key, IntKind.wrap_i64]
  omega
/-- a handle, any numbers -/
abbrev Hi := Int × Int × Int
def hiC (h : Hi) : List Value := [.int .i64 h.1, .int .i64 h.2.1, .int .i64 h.2.2]
def hiCs (l : List Hi) : List Value := l.flatMap hiC
theorem hiCs_len (l : List Hi) : (hiCs l).length = l.length * 3 := flat_len _ 3 (fun _ => rfl) l
theorem hiCs_at {l : List Hi} {i : Nat} {x : Hi} (h : l[i]? = some x) : (hiCs l)[i * 3]? = some (.int .i64 x.1) ∧ (hiCs l)[i * 3 + 1]? = some (.int .i64 x.2.1) ∧ (hiCs l)[i * 3 + 2]? = some (.int .i64 x.2.2) :=
  ⟨flat_get _ 3 (fun _ => rfl) l i 0 x h (by omega), flat_get _ 3 (fun _ => rfl) l i 1 x h (by omega), flat_get _ 3 (fun _ => rfl) l i 2 x h (by omega)⟩
theorem hiCs_app (l m : List Hi) : hiCs (l ++ m) = hiCs l ++ hiCs m := List.flatMap_append
theorem hiCs_one (l : List Hi) : ∀ u ∈ hiCs l, u.oneCell' = true := by
  intro u hu
  unfold hiCs at hu
  rw [List.mem_flatMap] at hu
  obtain ⟨c, _, hu⟩ := hu
  simp [hiC] at hu
  rcases hu with rfl | rfl | rfl <;> rfl
namespace arenaSteps
/-- what stands beside both arenas: the handles, the raw handle -/
structure Rest (w : World) (B0 lo g : Nat) (x : Hi) (H : List Hi) (D : Option Addr) (n m : Nat) (wx : World) : Prop where
  own : Own wx lo 40 3 D n m (hiCs H)
  len : H.length = n
  k : Keeps (fun _ => False) w wx
  raw : Blk wx g 40 (hiC x).toArray
  gl : g < lo
  wl : w.heap.size ≤ lo
  lb : lo ≤ B0
  bx : B0 ≤ wx.heap.size
variable {w wx wy : World} {B0 lo g n m : Nat} {x : Hi} {H : List Hi} {D : Option Addr}
theorem Rest.quiet (h : Rest w B0 lo g x H D n m wx) (k : Keeps (fun _ => False) wx wy) : Rest w B0 lo g x H D n m wy :=
  ⟨h.own.kept k (fun _ _ h => h), h.len, h.k.trans k, h.raw.kept k (fun h => h), h.gl, h.wl, h.lb, Nat.le_trans h.bx k.size⟩
theorem ArS.hand {t : TypeId} {cs : Array Value} {p : Nat} (h : Blk wx p t cs) (ht : t = 40 ∨ t = 5) : ¬ ArS B0 wx p := by
  rintro ⟨_, cs', t', h1, h2⟩
  have := blk_type h1 h
  subst this
  rcases ht with rfl | rfl <;> rcases h2 with h2 | h2 | h2 <;> exact absurd h2 (by decide)
theorem RS.hand {G : Nat → Prop} {t : TypeId} {cs : Array Value} {p : Nat} (h : Blk wx p t cs) (ht : t = 40 ∨ t = 5) : ¬ RS G wx p := by
  rintro ⟨_, cs', t', h1, h2⟩
  have := blk_type h1 h
  subst this
  rcases ht with rfl | rfl <;> rcases h2 with h2 | h2 | h2 <;> exact absurd h2 (by decide)
theorem Rest.ar (h : Rest w B0 lo g x H D n m wx) (k : Keeps (ArS B0 wx) wx wy) : Rest w B0 lo g x H D n m wy :=
  ⟨h.own.kept k (fun p hp => by obtain ⟨cs, h1⟩ := h.own.blk hp; exact ArS.hand h1 (.inl rfl)), h.len, h.k.step k (fun p hp e => by obtain ⟨h1, _⟩ := e; have := h.wl; have := h.lb; omega), h.raw.kept k (ArS.hand h.raw (.inl rfl)), h.gl, h.wl, h.lb, Nat.le_trans h.bx k.size⟩
theorem Rest.rs (h : Rest w B0 lo g x H D n m wx) (k : Keeps (RS (fun k => k < lo) wx) wx wy) : Rest w B0 lo g x H D n m wy :=
  ⟨h.own.kept k (fun p hp => by obtain ⟨cs, h1⟩ := h.own.blk hp; exact RS.hand h1 (.inl rfl)), h.len, h.k.step k (fun p hp e => by obtain ⟨h1, _⟩ := e; have := h.wl; omega), h.raw.kept k (RS.hand h.raw (.inl rfl)), h.gl, h.wl, h.lb, Nat.le_trans h.bx k.size⟩
/-- between two statements of a round -/
def Mid (w : World) (B0 a lo b g : Nat) (x : Hi) (M : Int) (N : Nat) (H : List Hi) (D : Option Addr) (n m : Nat) (wx : World) : Prop := Rest w B0 lo g x H D n m wx ∧ Both wx B0 a (fun k => k < lo) b M N
theorem Both.quiet {a b N : Nat} {M : Int} {G : Nat → Prop} (h : Both wx B0 a G b M N) (k : Keeps (fun _ => False) wx wy) : Both wy B0 a G b M N := by
  obtain ⟨s, L, ρ, h1, h2, h3, h4, h5, h6⟩ := h
  exact ⟨s, L, ρ, h1.quiet k, h2, h3.quiet k, h4, h5, h6⟩
theorem Both.more {a b N N' : Nat} {M M' : Int} {G : Nat → Prop} (h : Both wx B0 a G b M N) (hM : M ≤ M') (hN : N ≤ N') : Both wx B0 a G b M' N' := by
  obtain ⟨s, L, ρ, h1, h2, h3, h4, h5, h6⟩ := h
  exact ⟨s, L, ρ, h1, h2.more hM, h3, h4, by omega, by omega⟩
theorem Mid.quiet {a b N : Nat} {M : Int} (h : Mid w B0 a lo b g x M N H D n m wx) (k : Keeps (fun _ => False) wx wy) : Mid w B0 a lo b g x M N H D n m wy := ⟨h.1.quiet k, Both.quiet h.2 k⟩
end arenaSteps
end Go.Proofs.Ytidobhflijdccaa
