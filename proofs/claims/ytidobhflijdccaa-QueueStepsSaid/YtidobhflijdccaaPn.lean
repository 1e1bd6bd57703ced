/-
  pool.New, Len, Find, Text and Release. No conditions beyond those of the statement.
-/
import Derived.Test.YtidobhflijdccaaPm
import Derived.BigQuiet
set_option linter.unusedVariables false
set_option linter.unusedSimpArgs false
namespace Go.Proofs.Ytidobhflijdccaa
open Go.RowKit Cfp
open Go.Maps (string_keyed)
open Go.WideMaps
theorem PInv.new (s : Ar) : PInv [PE.zero] s (.map []) 0 := by
  have h0 : ∀ {id : Nat} {e : PE}, [PE.zero][id]? = some e → e.users = 0 := fun {id e} h => by
    have := List.mem_of_getElem? h
    simp at this
    subst this
    rfl
  refine ⟨⟨PE.zero, rfl, rfl⟩, fun id e he => by have := h0 he; omega, fun id e he hu => by have := h0 he; omega, fun id id' e e' he _ hu => by have := h0 he; omega, ⟨Maps.tidy_empty, fun id e he hu => by have := h0 he; omega, fun key _ => rfl, rfl⟩, by simp⟩
/-- no entry in use has this key -/
def NoKey (E : List PE) (key : List UInt8) : Prop := ∀ (j : Nat) (e : PE), E[j]? = some e → 0 < e.users → e.key ≠ key
theorem key_or (E : List PE) (key : List UInt8) : NoKey E key ∨ ∃ (id : Nat) (x : PE), E[id]? = some x ∧ 0 < x.users ∧ x.key = key := by
  by_cases h : ∃ (id : Nat) (x : PE), E[id]? = some x ∧ 0 < x.users ∧ x.key = key
  · exact .inr h
  · exact .inl fun j e he hu hk => h ⟨j, e, he, hu, hk⟩
theorem lit_inj {a b : Int} (h : (DataW.lit (.int .i64 a) : KD) = .lit (.int .i64 b)) : a = b := by cases h; rfl
theorem zero_int (w : World) : (zeroValue 3).run Try.prog w = .ok (.int .i64 0) w := by kernel_rfl
section
variable {w : World} {B p a mb cap : Nat} {n : Int} {E : List PE} {EA : Option Addr} {D : KD}
theorem key_of {s : ByteArray} (hs : s.size ≤ maxLen) : keyOf Try.prog 9 (.string s) = some (.string s.data.toList) := keyOf_string_mk Try.underlying9 hs
theorem look_ok (h : MapIs w mb D) (hs : Says E D) (s : ByteArray) (hz : s.size ≤ maxLen) :
    (∀ (id : Nat) (x : PE), E[id]? = some x → 0 < x.users → x.key = s.data.toList → (Instr.lookup 142 (.map (some mb)) (.string s) true).run Try.prog w = .ok (.tuple #[.int .i64 id, .bool true]) w) ∧
    (NoKey E s.data.toList → (Instr.lookup 142 (.map (some mb)) (.string s) true).run Try.prog w = .ok (.tuple #[.int .i64 0, .bool false]) w) := by
  obtain ⟨v, ps, hrun, hv⟩ := World.ownsMap.look_ok h (string_keyed Try.underlying9) Try.underlying142 (zero_int w) (zd := kzero) (zp := []) (plainElem_int Try.underlying3 (by decide)) (key_of hz)
  obtain ⟨c, rfl, hc, _⟩ := plainElem_int_inv Try.underlying3 hv
  simp only [Prod.mk.injEq] at hc
  refine ⟨fun id x hx hu hk => ?_, fun hno => ?_⟩
  · obtain ⟨h1, h2⟩ := hs.yes id x hx hu
    rw [hk] at h1 h2
    rw [h1] at hc
    have hc1 := lit_inj hc.1
    subst hc1
    rewrite [h2] at hrun
    exact hrun
  · have h2 := hs.no _ hno
    rw [Maps.atKey_of_not_has h2] at hc
    have hc1 := lit_inj hc.1
    subst hc1
    rewrite [h2] at hrun
    exact hrun
theorem look1 (h : MapIs w mb D) (hs : Says E D) (s : ByteArray) (hz : s.size ≤ maxLen) :
    (∀ (id : Nat) (x : PE), E[id]? = some x → 0 < x.users → x.key = s.data.toList → (Instr.lookup 142 (.map (some mb)) (.string s) false).run Try.prog w = .ok (.int .i64 id) w) ∧
    (NoKey E s.data.toList → (Instr.lookup 142 (.map (some mb)) (.string s) false).run Try.prog w = .ok (.int .i64 0) w) := by
  obtain ⟨c, hrun, hc, _⟩ := World.ownsMap.lookup_int h (string_keyed Try.underlying9) Try.underlying142 Try.underlying3 (zero_int w) (key_of hz)
  refine ⟨fun id x hx hu hk => ?_, fun hno => ?_⟩
  · obtain ⟨h1, h2⟩ := hs.yes id x hx hu
    rw [hk] at h1
    unfold kzero kval at h1
    rw [h1] at hc
    have hc := lit_inj hc
    subst hc
    exact hrun
  · have h2 := hs.no _ hno
    rw [Maps.atKey_of_not_has h2] at hc
    have hc := lit_inj hc
    subst hc
    exact hrun
end
/-- what New gives -/
def PNews (w : World) (a : Nat) (n : Int) (e : Ending) (w' : World) : Prop :=
  ∃ p g mb, e = .returned (.tuple #[.pointer (some ⟨p, 0, none⟩), .int .i64 0]) ∧ IsPo w' w.heap.size p a n [PE.zero] (some ⟨g, 0, none⟩) 1 mb (.map []) ∧ Keeps (fun _ => False) w w'
set_option maxRecDepth 100000 in
theorem pnew_ok (w : World) (a : Nat) (n : Int) (h1 : 1 ≤ n) (h2 : n ≤ 8192) :
    Calls Try.prog 38 #[.pointer (some ⟨a, 0, none⟩), .int .i64 n] w (PNews w a n) := by
  have hmk : ∀ w, (Instr.makeSlice 141 (.int .i64 1) (.int .i64 1)).run Try.prog w = .ok (.slice (some ⟨w.heap.size, 0, none⟩) 1 1) (w.alloc (.cells #[.int .i64 0, .int .i64 0, .int .i64 0, .int .i64 0] 147)) := fun _ => by kernel_rfl
  have hmm : ∀ w, (Instr.makeMap 142 none).run Try.prog w = .ok (.map (some w.heap.size)) (w.alloc (.map #[] 0)) := fun w => run_makeMap _ w
  have t1 : decide (n < 1) = false := by simp; omega
  have t2 : decide ((8192 : Int) < n) = false := by simp; omega
  go_enter Try.func38, Try.ntmps38
  go_wp2_with fail
  go_ret2
  have k1 := (Keeps.refl (fun _ => False) w).alloc (.cells #[.int .i64 0, .int .i64 0, .int .i64 0, .int .i64 0] 147)
  have o1 := Own.new w w.heap.size 147 #[.int .i64 0, .int .i64 0, .int .i64 0, .int .i64 0] 1 4 (Nat.le_refl _) (by decide) rfl
  have m2 := MapIs.new (w.alloc (.cells #[.int .i64 0, .int .i64 0, .int .i64 0, .int .i64 0] 147))
  have k2 := (Keeps.refl (fun _ => False) (w.alloc (.cells #[.int .i64 0, .int .i64 0, .int .i64 0, .int .i64 0] 147))).alloc (.map #[] 0)
  have k3 := (Keeps.refl (fun _ => False) ((w.alloc (.cells #[.int .i64 0, .int .i64 0, .int .i64 0, .int .i64 0] 147)).alloc (.map #[] 0))).alloc (.cells #[.pointer (some ⟨a, 0, none⟩), .int .i64 n, .slice (some ⟨w.heap.size, 0, none⟩) 1 1, .map (some (w.heap.size + 1))] 144)
  refine ⟨w.heap.size + 1 + 1, w.heap.size, w.heap.size + 1, rfl, ⟨by omega, ?_, (o1.kept k2 (fun _ _ h => h)).kept k3 (fun _ _ h => h), ?_, ?_⟩, (k1.trans k2).trans k3⟩
  · exact Blk.new_at _ _ _ _ (by simp)
  · exact Nat.le_succ _
  · have := m2.kept k3 (fun h => h)
    simpa using this
theorem pnew_bad (w : World) (a : Nat) (n : Int) (h : n < 1 ∨ 8192 < n) :
    Calls Try.prog 38 #[.pointer (some ⟨a, 0, none⟩), .int .i64 n] w fun e w' => e = .returned (.tuple #[.pointer none, .int .i64 1]) ∧ w' = w := by
  by_cases h1 : n < 1
  · have t1 : decide (n < 1) = true := by simpa using h1
    clear h h1
    go_enter Try.func38, Try.ntmps38
    go_wp2_with fail
    go_ret2
    exact ⟨rfl, rfl⟩
  · have t1 : decide (n < 1) = false := by simpa using h1
    have t2 : decide ((8192 : Int) < n) = true := by simp; omega
    clear h h1
    go_enter Try.func38, Try.ntmps38
    go_wp2_with fail
    go_ret2
    exact ⟨rfl, rfl⟩
theorem pnew_nil (w : World) (n : Int) :
    Calls Try.prog 38 #[.pointer none, .int .i64 n] w fun e w' => e = .returned (.tuple #[.pointer none, .int .i64 8]) ∧ w' = w := by
  go_enter Try.func38, Try.ntmps38
  go_wp2_with fail
  go_ret2
  exact ⟨rfl, rfl⟩
section
variable (w : World) (B p a mb cap : Nat) (n : Int) (E : List PE) (EA : Option Addr) (D : KD) (s : Ar) (M : Int)
theorem plen_ok (h : IsPo w B p a n E EA cap mb D) (hs : Says E D) :
    Calls Try.prog 44 #[.pointer (some ⟨p, 0, none⟩)] w fun e w' => e = .returned (.int .i64 (cntU E : Int)) ∧ w' = w := by
  obtain ⟨⟨p0, p1, p2, p3⟩, hpw⟩ := h.cells
  have hl := fun ty => World.ownsMap.len h.map Try.underlying142 ty
  rw [hs.sz] at hl
  clear h
  go_enter Try.func44, Try.ntmps44
  go_wp2_with fail
  go_ret
  exact ⟨rfl, rfl⟩
/-- what Find gives -/
def Finds (w : World) (E : List PE) (key : List UInt8) (e : Ending) (w' : World) : Prop :=
  ((∃ (id : Nat) (x : PE), E[id]? = some x ∧ 0 < x.users ∧ x.key = key ∧ e = .returned (.tuple #[.int .i64 id, .int .i64 x.users])) ∨ (NoKey E key ∧ e = .returned (.tuple #[.int .i64 0, .int .i64 0]))) ∧ ∃ q, w' = w.drewN q
theorem pfind_ok (h : IsPo w B p a n E EA cap mb D) (v : PInv E s D M) (t : ByteArray) (ht : t.size ≤ maxLen) (hE : E.length ≤ 1000000) :
    Calls Try.prog 48 #[.pointer (some ⟨p, 0, none⟩), .string t] w (Finds w E t.data.toList) := by
  obtain ⟨⟨p0, p1, p2, p3⟩, hpw⟩ := h.cells
  obtain ⟨l1, l2⟩ := look1 h.map v.says t ht
  rcases key_or E t.data.toList with hno | ⟨id, x, hx, hu, hk⟩
  · have hl := l2 hno
    have HNo := hide hno
    clear l1 l2 h v hno
    go_enter Try.func48, Try.ntmps48
    go_wp2_with fail
    go_ret2
    exact ⟨.inr ⟨HNo.out, rfl⟩, 0, rfl⟩
  · have hl := l1 id x hx hu hk
    have hid : id < E.length := (List.getElem?_eq_some_iff.1 hx).1
    have hi0 : id ≠ 0 := fun e => by subst e; obtain ⟨y, h2, h3⟩ := v.zero; rw [hx] at h2; injection h2 with h2; subst h2; omega
    obtain ⟨g, rfl, _⟩ := h.own.some_ (by omega)
    obtain ⟨_, _, _, g3⟩ := peCs_at hx
    have q3 := h.own.cell (id * 4 + 3) (by omega)
    rw [g3] at q3
    obtain ⟨N, hN⟩ : ∃ N, N = E.length := ⟨_, rfl⟩
    rw [← hN] at p2 hid hE
    have hiI : (id : Int) < (N : Int) := by omega
    have hi00 : (0 : Int) ≤ (id : Int) := by omega
    have hib : ((id : Int) == 0) = false := by simp; omega
    have HX := hide hx
    have HK := hide hk
    clear l1 l2 h v hx hk hN g3 hi0
    go_enter Try.func48, Try.ntmps48
    go_wp2_with fail
    go_quiet (fail)
    go_wp2_with fail
    go_ret2
    exact ⟨.inl ⟨id, x, HX.out, hu, HK.out, rfl⟩, _, rfl⟩
end
end Go.Proofs.Ytidobhflijdccaa
