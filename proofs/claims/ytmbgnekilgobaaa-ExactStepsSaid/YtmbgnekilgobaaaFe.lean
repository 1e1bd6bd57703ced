/-
  Both exact stores, the program's and the reference's, side by side. No conditions beyond those of the statement.
-/
import Derived.Test.YtmbgnekilgobaaaFa
set_option linter.unusedVariables false
set_option linter.unusedSimpArgs false
namespace Go.Proofs.Ytmbgnekilgobaaa
open Go.RowKit
/-- s is the program's store of l, q the reference's of l2; what is in G is of neither -/
def Two (w : World) (G : Nat → Prop) (s q : Nat) (N : Int) (l l2 : List Ln) : Prop :=
  ∃ (A : Option Addr) (m c : Nat) (A2 : Option Addr) (m2 c2 : Nat), Blk w s 93 #[.int .i64 N, .slice A m c] ∧ Blk w q 80 #[.int .i64 N, .slice A2 m2 c2] ∧ Ens w 0 A m c l ∧ Ens w 0 A2 m2 c2 l2 ∧
    (∀ k, inB A k → ¬ inB A2 k) ∧ (∀ k, inB A k → ¬ G k) ∧ (∀ k, inB A2 k → ¬ G k) ∧ ¬ G s ∧ ¬ G q ∧ Asc l ∧ Nums l ∧ (m : Int) ≤ N ∧ Asc l2 ∧ Nums l2 ∧ (m2 : Int) ≤ N ∧ N ≤ 32
section
variable {w w' : World} {G G' S : Nat → Prop} {s q : Nat} {N : Int} {l l2 : List Ln}
theorem Two.kept (h : Two w G s q N l l2) (k : Keeps S w w') (hS : ∀ k, S k → G k) : Two w' G s q N l l2 := by
  obtain ⟨A, m, c, A2, m2, c2, h1, h2, h3, h4, h5, h6, h7, h8, h9, h10⟩ := h
  exact ⟨A, m, c, A2, m2, c2, h1.kept k (fun e => h8 (hS _ e)), h2.kept k (fun e => h9 (hS _ e)), h3.kept k (fun q hq e => h6 q hq (hS _ e)), h4.kept k (fun q hq e => h7 q hq (hS _ e)), h5, h6, h7, h8, h9, h10⟩
theorem Two.grow (h : Two w G s q N l l2) (k : Keeps S w w') (hS : ∀ k, S k → G k) : Two w' (fun q => G q ∨ (w.heap.size ≤ q ∧ q < w'.heap.size)) s q N l l2 := by
  obtain ⟨A, m, c, A2, m2, c2, h1, h2, h3, h4, h5, h6, h7, h8, h9, h10⟩ := h
  refine ⟨A, m, c, A2, m2, c2, h1.kept k (fun e => h8 (hS _ e)), h2.kept k (fun e => h9 (hS _ e)), h3.kept k (fun q hq e => h6 q hq (hS _ e)), h4.kept k (fun q hq e => h7 q hq (hS _ e)), h5, fun q hq e => ?_, fun q hq e => ?_, fun e => ?_, fun e => ?_, h10⟩
  · rcases e with e | e
    · exact h6 q hq e
    · have := (h3.inB hq).2; omega
  · rcases e with e | e
    · exact h7 q hq e
    · have := (h4.inB hq).2; omega
  · rcases e with e | e
    · exact h8 e
    · have := h1.lt; omega
  · rcases e with e | e
    · exact h9 e
    · have := h2.lt; omega
theorem Two.less (h : Two w G s q N l l2) (hG : ∀ k, G' k → G k) : Two w G' s q N l l2 := by
  obtain ⟨A, m, c, A2, m2, c2, h1, h2, h3, h4, h5, h6, h7, h8, h9, h10⟩ := h
  exact ⟨A, m, c, A2, m2, c2, h1, h2, h3, h4, h5, fun q hq e => h6 q hq (hG q e), fun q hq e => h7 q hq (hG q e), fun e => h8 (hG _ e), fun e => h9 (hG _ e), h10⟩
theorem Two.fine (h : Two w G s q N l l2) : Asc l ∧ Nums l ∧ l.length ≤ 32 ∧ s < w.heap.size ∧ q < w.heap.size := by
  obtain ⟨A, m, c, A2, m2, c2, h1, h2, h3, h4, h5, h6, h7, h8, h9, h10, h11, h12, h13, h14, h15, h16⟩ := h
  have := Lns.len_en h3
  exact ⟨h10, h11, by omega, h1.lt, h2.lt⟩
/-- what an operation leaves -/
def TPost (w : World) (G : Nat → Prop) (s q : Nat) (N : Int) (l l2 : List Ln) (v : Value) (e : Ending) (w' : World) : Prop :=
  e = .returned v ∧ Two w' G s q N l l2 ∧ Keeps (fun k => ¬ G k) w w'
theorem tput_any (h : Two w G s q N l l2) (hG : ∀ k, G k → k < w.heap.size) (x : Ln) (hx : U x.lo ∧ U x.hi) :
    Calls Try.prog 38 #[.pointer (some ⟨s, 0, none⟩), enV x] w (TPost w G s q N (putL N l.length l x) l2 (.int .i64 (putC N l.length l x))) := by
  obtain ⟨A, m, c, A2, m2, c2, h1, h2, h3, h4, h5, h6, h7, h8, h9, h10, h11, h12, h13, h14, h15, h16⟩ := h
  have hm := Lns.len_en h3
  refine (eput_any w 0 s N A m c l x hx h1 h3 (Nat.zero_le _) h10 (by omega) (fun e => h3.ne_blk h1 (by decide) e rfl)).mono ?_
  rintro e w' ⟨A', c', rfl, b', o', k', hA'⟩
  obtain ⟨l1, l2'⟩ := putL_laws h10 h11 N m (x := x) hx
  rw [hm]
  have hk2 : ∀ k, inB A2 k → ¬ (k = s ∨ inB A k) := fun k hk e => e.elim (fun e => h4.ne_blk h1 (by decide) hk e) (fun e => h5 k e hk)
  have hdq : ¬ (q = s ∨ inB A q) := fun e => e.elim (fun e => h2.ne h1 (by decide) e) (fun e => h3.ne_blk h2 (by decide) e rfl)
  refine ⟨rfl, ⟨A', _, c', A2, m2, c2, b', h2.kept k' hdq, o', h4.kept k' hk2, fun k hk hk2' => ?_, fun k hk e => ?_, h7, h8, h9, l1, l2', putM_le h12, h13, h14, h15, h16⟩, k'.weak (fun q _ e => e.elim (fun e => e ▸ h8) (fun e => h6 q e))⟩
  · rcases hA' k hk with e2 | e2
    · exact h5 k e2 hk2'
    · have := (h4.inB hk2').2; omega
  · rcases hA' k hk with e2 | e2
    · exact h6 k e2 e
    · have := hG k e; omega
theorem trput_any (h : Two w G s q N l l2) (hG : ∀ k, G k → k < w.heap.size) (x : Ln) (hx : U x.lo ∧ U x.hi) :
    Calls Try.prog 49 #[.pointer (some ⟨q, 0, none⟩), enV x] w (TPost w G s q N l (putL N l2.length l2 x) (.int .i64 (putC N l2.length l2 x))) := by
  obtain ⟨A, m, c, A2, m2, c2, h1, h2, h3, h4, h5, h6, h7, h8, h9, h10, h11, h12, h13, h14, h15, h16⟩ := h
  have hm := Lns.len_en h4
  refine (rput_any w 0 q N A2 m2 c2 l2 x hx h2 h4 (Nat.zero_le _) h13 (by omega) (fun e => h4.ne_blk h2 (by decide) e rfl)).mono ?_
  rintro e w' ⟨A', c', rfl, b', o', k', hA'⟩
  obtain ⟨l1, l2'⟩ := putL_laws h13 h14 N m2 (x := x) hx
  rw [hm]
  refine ⟨rfl, ⟨A, m, c, A', _, c', h1.kept k' (fun e => h1.ne h2 (by decide) e), b', h3.kept k' (fun k hk e => h3.ne_blk h2 (by decide) hk e), o', fun k hk hk2' => ?_, h6, fun k hk e => ?_, h8, h9, h10, h11, h12, l1, l2', putM_le h15, h16⟩, k'.weak (fun k _ e => e ▸ h9)⟩
  · rcases hA' k hk2' with e2 | e2
    · exact h5 k hk e2
    · have := (h3.inB hk).2; omega
  · rcases hA' k hk with e2 | e2
    · exact h7 k e2 e
    · have := hG k e; omega
theorem tadd_any (h : Two w G s q N l l2) (k : ByteArray) (v : Int) (hv : U v) :
    Calls Try.prog 40 #[.pointer (some ⟨s, 0, none⟩), .string k, .int .u64 v] w (TPost w G s q N (addL l k v) l2 (.int .i64 (addC l k v))) := by
  obtain ⟨A, m, c, A2, m2, c2, h1, h2, h3, h4, h5, h6, h7, h8, h9, h10, h11, h12, h13, h14, h15, h16⟩ := h
  have hsA : ¬ inB A s := fun e => h3.ne_blk h1 (by decide) e rfl
  refine (eadd_any w 0 s N A m c l k v hv h1 h3 h10 h11 (by omega) hsA).mono ?_
  rintro e w' ⟨rfl, o', k'⟩
  obtain ⟨l1, l2'⟩ := addL_laws h10 h11 k hv
  exact ⟨rfl, ⟨A, m, c, A2, m2, c2, h1.kept k' hsA, h2.kept k' (fun e => h3.ne_blk h2 (by decide) e rfl), o', h4.kept k' (fun k hk e => h5 k e hk), h5, h6, h7, h8, h9, l1, l2', h12, h13, h14, h15, h16⟩, k'.weak (fun q _ e => h6 q e)⟩
theorem tradd_any (h : Two w G s q N l l2) (k : ByteArray) (v : Int) (hv : U v) :
    Calls Try.prog 50 #[.pointer (some ⟨q, 0, none⟩), .string k, .int .u64 v] w (TPost w G s q N l (addL l2 k v) (.int .i64 (addC l2 k v))) := by
  obtain ⟨A, m, c, A2, m2, c2, h1, h2, h3, h4, h5, h6, h7, h8, h9, h10, h11, h12, h13, h14, h15, h16⟩ := h
  have hsA : ¬ inB A2 q := fun e => h4.ne_blk h2 (by decide) e rfl
  refine (radd_en w 0 q N A2 m2 c2 l2 k v hv h2 h4 h13 h14 (by omega) hsA).mono ?_
  rintro e w' ⟨rfl, o', k'⟩
  obtain ⟨l1, l2'⟩ := addL_laws h13 h14 k hv
  exact ⟨rfl, ⟨A, m, c, A2, m2, c2, h1.kept k' (fun e => h4.ne_blk h1 (by decide) e rfl), h2.kept k' hsA, h3.kept k' (fun k hk e => h5 k hk e), o', h5, h6, h7, h8, h9, h10, h11, h12, l1, l2', h15, h16⟩, k'.weak (fun q _ e => h7 q e)⟩
theorem ttake_any (h : Two w G s q N l l2) (k : ByteArray) :
    Calls Try.prog 48 #[.pointer (some ⟨s, 0, none⟩), .string k] w (TPost w G s q N (takeL l k) l2 (.tuple #[enV (getE l k), .bool (foundK l k)])) := by
  obtain ⟨A, m, c, A2, m2, c2, h1, h2, h3, h4, h5, h6, h7, h8, h9, h10, h11, h12, h13, h14, h15, h16⟩ := h
  refine (etake_any w 0 s N A m c l k h1 h3 h10 (by omega) (fun e => h3.ne_blk h1 (by decide) e rfl)).mono ?_
  rintro e w' ⟨rfl, b', o', k'⟩
  obtain ⟨l1, l2'⟩ := takeL_laws h10 h11 k
  exact ⟨rfl, ⟨A, _, c, A2, m2, c2, b', h2.kept k' (fun e => e.elim (fun e => h2.ne h1 (by decide) e) (fun e => h3.ne_blk h2 (by decide) e rfl)), o', h4.kept k' (fun k hk e => e.elim (fun e => h4.ne_blk h1 (by decide) hk e) (fun e => h5 k e hk)), h5, h6, h7, h8, h9, l1, l2', by unfold takeM; split <;> omega, h13, h14, h15, h16⟩, k'.weak (fun q _ e => e.elim (fun e => e ▸ h8) (fun e => h6 q e))⟩
theorem trtake_any (h : Two w G s q N l l2) (hG : ∀ k, G k → k < w.heap.size) (k : ByteArray) :
    Calls Try.prog 51 #[.pointer (some ⟨q, 0, none⟩), .string k] w (TPost w G s q N l (takeL l2 k) (.tuple #[enV (getE l2 k), .bool (foundK l2 k)])) := by
  obtain ⟨A, m, c, A2, m2, c2, h1, h2, h3, h4, h5, h6, h7, h8, h9, h10, h11, h12, h13, h14, h15, h16⟩ := h
  refine (rtake_any w 0 q N A2 m2 c2 l2 k h2 h4 (Nat.zero_le _) h13 (by omega) (fun e => h4.ne_blk h2 (by decide) e rfl)).mono ?_
  rintro e w' ⟨A', c', rfl, b', o', k', hA'⟩
  obtain ⟨l1, l2'⟩ := takeL_laws h13 h14 k
  refine ⟨rfl, ⟨A, m, c, A', _, c', h1.kept k' (fun e => h1.ne h2 (by decide) e), b', h3.kept k' (fun k hk e => h3.ne_blk h2 (by decide) hk e), o', fun k hk hk2' => ?_, h6, fun k hk e => ?_, h8, h9, h10, h11, h12, l1, l2', by unfold takeM; split <;> omega, h16⟩, k'.weak (fun k _ e => e ▸ h9)⟩
  · rcases hA' k hk2' with e2 | e2
    · exact h5 k hk e2
    · have := (h3.inB hk).2; omega
  · rcases hA' k hk with e2 | e2
    · exact h7 k e2 e
    · have := hG k e; omega
theorem tget_any (h : Two w G s q N l l2) (k : ByteArray) :
    Calls Try.prog 41 #[.pointer (some ⟨s, 0, none⟩), .string k] w fun e w' => e = .returned (.tuple #[enV (getE l k), .bool (foundK l k)]) ∧ Keeps (fun _ => False) w w' := by
  obtain ⟨A, m, c, A2, m2, c2, h1, h2, h3, h4, h5, h6, h7, h8, h9, h10, h11, h12, h13, h14, h15, h16⟩ := h
  exact eget_any w _ s N A m c l k h1 (h3.rd (by omega)) h10 (by omega)
theorem trget_any (h : Two w G s q N l l2) (k : ByteArray) :
    Calls Try.prog 52 #[.pointer (some ⟨q, 0, none⟩), .string k] w fun e w' => e = .returned (.tuple #[enV (getE l2 k), .bool (foundK l2 k)]) ∧ Keeps (fun _ => False) w w' := by
  obtain ⟨A, m, c, A2, m2, c2, h1, h2, h3, h4, h5, h6, h7, h8, h9, h10, h11, h12, h13, h14, h15, h16⟩ := h
  exact rget_any w _ q N A2 m2 c2 l2 k h2 (h4.rd (by omega)) h13 (by omega)
theorem tleast_any (h : Two w G s q N l l2) :
    Calls Try.prog 45 #[.pointer (some ⟨s, 0, none⟩)] w fun e w' => e = .returned (.tuple #[enV (leastL l), .bool (decide (0 < l.length))]) ∧ Keeps (fun _ => False) w w' := by
  obtain ⟨A, m, c, A2, m2, c2, h1, h2, h3, h4, h5, h6, h7, h8, h9, h10, h11, h12, h13, h14, h15, h16⟩ := h
  cases l with
  | nil =>
    obtain rfl : m = 0 := (Lns.len_en h3).symm
    exact eleast_none w s N A c h1
  | cons x0 tl => exact eleast_some w _ s N A m c x0 tl h1 (h3.rd (by omega)) (Nat.le_refl _) h3.le h11 (by omega)
theorem trleast_any (h : Two w G s q N l l2) :
    Calls Try.prog 53 #[.pointer (some ⟨q, 0, none⟩)] w fun e w' => e = .returned (.tuple #[enV (leastL l2), .bool (decide (0 < l2.length))]) ∧ Keeps (fun _ => False) w w' := by
  obtain ⟨A, m, c, A2, m2, c2, h1, h2, h3, h4, h5, h6, h7, h8, h9, h10, h11, h12, h13, h14, h15, h16⟩ := h
  cases l2 with
  | nil =>
    obtain rfl : m2 = 0 := (Lns.len_en h4).symm
    exact rleast_none w q N A2 c2 h2
  | cons x0 tl => exact rleast_some w _ q N A2 m2 c2 x0 tl h2 (h4.rd (by omega)) (Nat.le_refl _) h4.le h14 (by omega)
theorem tlen_any (h : Two w G s q N l l2) :
    Calls Try.prog 42 #[.pointer (some ⟨s, 0, none⟩)] w fun e w' => e = .returned (.int .i64 (l.length : Nat)) ∧ w' = w := by
  obtain ⟨A, m, c, A2, m2, c2, h1, h2, h3, h4, h5⟩ := h
  rw [Lns.len_en h3]
  exact elen_any w s N A m c h1
theorem tentries_any (h : Two w G s q N l l2) :
    Calls Try.prog 46 #[.pointer (some ⟨s, 0, none⟩)] w fun e w' => ∃ A' c', e = .returned (.slice A' l.length c') ∧ Ens w' w.heap.size A' l.length c' l ∧ Keeps (fun _ => False) w w' := by
  obtain ⟨A, m, c, A2, m2, c2, h1, h2, h3, h4, h5, h6, h7, h8, h9, h10, h11, h12, h13, h14, h15, h16⟩ := h
  rw [Lns.len_en h3]
  exact eentries_any w _ s N A m c l h1 (h3.rd (by omega)) (by omega)
/-- the reference's list -/
theorem Two.list (h : Two w G s q N l l2) : ∃ A2 c2, w.cell? ⟨q, 1, none⟩ = some (.slice A2 l2.length c2) ∧ q < w.heap.size ∧ Rd w w.heap.size A2 3 l2.length (lnCs l2) := by
  obtain ⟨A, m, c, A2, m2, c2, h1, h2, h3, h4, h5, h6, h7, h8, h9, h10, h11, h12, h13, h14, h15, h16⟩ := h
  rw [Lns.len_en h4]
  exact ⟨A2, c2, h2.cell 1, h2.lt, h4.rd (by omega)⟩
end
end Go.Proofs.Ytmbgnekilgobaaa
