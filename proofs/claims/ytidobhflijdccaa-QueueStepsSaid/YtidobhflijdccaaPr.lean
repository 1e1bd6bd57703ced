/-
  pool.Intern. No conditions beyond those of the statement.
-/
import Derived.Test.YtidobhflijdccaaPq
import Derived.Lib.ConvBytes
import Derived.Deep.RegionHeld3
set_option linter.unusedVariables false
set_option linter.unusedSimpArgs false
namespace Go.Proofs.Ytidobhflijdccaa
open Go.RowKit Cfp
open Go.Maps (string_keyed)
open Go.WideMaps
theorem keeps_bytes (w : World) (e : TypeId) (s : ByteArray) : Keeps (fun _ => False) w (Lib.bytesWorld w e s) :=
  ⟨rfl, rfl, rfl, by rw [Lib.bytesWorld_size]; omega, fun k hk _ => Lib.bytesWorld_at_old w e s k hk⟩
theorem rd_bytes (w : World) (t : ByteArray) : Rd (Lib.bytesWorld w 5 t) (Lib.bytesWorld w 5 t).heap.size (some ⟨w.heap.size, 0, none⟩) 1 t.size (t.data.toList.map by8) := by
  have hl : t.data.toList.length = t.size := by rw [Array.length_toList]; rfl
  refine ⟨by rw [List.length_map, hl, Nat.mul_one], fun hn => ⟨w.heap.size, 0, rfl, by rw [Lib.bytesWorld_size]; omega, fun j u hu => ?_⟩⟩
  rw [List.getElem?_map] at hu
  rcases hx : t.data.toList[j]? with _ | b
  · rw [hx] at hu; cases hu
  · rw [hx] at hu
    have hj := (List.getElem?_eq_some_iff.1 hx).1
    rw [Nat.zero_add, Lib.bytesWorld_cell _ _ _ _ (by omega)]
    rw [← hu]
    have : t.data.toList.getD j 0 = b := by rw [List.getD, hx]; rfl
    rw [this]
    rfl
theorem shapeP_at {s s1 : Ar} (h : shapeA s1 = shapeA s) {i : Nat} {c c1 : Cls} (hc : s.cls[i]? = some c) (hc1 : s1.cls[i]? = some c1) : c1.size = c.size := by
  have e1 : (shapeA s)[i]? = some (c.size, c.count) := by simp [shapeA, hc]
  have e2 : (shapeA s1)[i]? = some (c1.size, c1.count) := by simp [shapeA, hc1]
  rw [h, e1] at e2
  injection e2 with e2
  injection e2 with e2
  exact e2.symm
theorem wf_id (id : Nat) (h : id < 4611686018427387904) : (Lit.int .i64 (id : Int)).wf = true := by
  have h1 : IntKind.min .i64 = -9223372036854775808 := by decide
  have h2 : IntKind.max .i64 = 9223372036854775807 := by decide
  simp only [Lit.wf, h1, h2, Bool.and_eq_true, decide_eq_true_eq]
  omega
/-- 'len(m)' of a map, as one step of a region that draws -/
theorem step_len_map {P : Program} {ops : Array Oper} {o : Oper} {a : Act} {w : World} {K : Act → World → Prop} {Q : Exit → Act → World → Prop} {F : Prop} {R : Value → Option (KD × List MemPlace)} {D : KD}
    (hg : o.guard = none) (m : Operand) (t : TypeId) (hop : o.op = Op.call { callee := Callee.builtin Builtin.len, args := #[m], argTypes := #[t] })
    (k e : TypeId) (ht : P.underlying t = some (.map k e)) (b n : Nat) (hm : a.eval m = .map (some b)) (hown : w.ownsMap P k R b n D)
    (hK : K (a.put o.dst (.int .i64 (Maps.size D))) w) : if Region.wanted o (yielded ops a.tmps) = true then Oper.wp P o a w K Q else F := by
  have hw : Region.wanted o (yielded ops a.tmps) = true := by simp [Region.wanted, hg]
  rw [if_pos hw]
  unfold Oper.wp
  simp [execOp, hop, resolve, invoke, builtin, hm, hown.len ht o.type, Result.andThen]
  exact hK
/-- why Alloc finds no slot -/
def NoSlot (s : Ar) (size c : Int) : Prop := (c = 1 ∧ (size < 1 ∨ ∀ (i : Nat) (c : Cls), s.cls[i]? = some c → c.size < size)) ∨ (c = 7 ∧ ∃ (i : Nat) (c : Cls), s.cls[i]? = some c ∧ fitK s.cls size = i ∧ c.live = c.count)
/-- what Intern does -/
inductive Interns (w : World) (B p a mb cap : Nat) (n : Int) (E : List PE) (EA : Option Addr) (D : KD) (s : Ar) (L : Nat → List Nat) (M M2 : Int) (key : List UInt8) (e : Ending) (w' : World) : Prop
  | no (c : Int) (he : e = .returned (.tuple #[.int .i64 0, .int .i64 c])) (hc : (key = [] ∧ c = 3) ∨ (255 < key.length ∧ c = 4) ∨ (1 ≤ key.length ∧ key.length ≤ 255 ∧ NoKey E key ∧ (cntU E : Int) = n ∧ c = 7) ∨ (1 ≤ key.length ∧ key.length ≤ 255 ∧ NoKey E key ∧ (cntU E : Int) ≠ n ∧ NoSlot s key.length c))
      (h : IsPo w' B p a n E EA cap mb D) (hA : IsAr w' B a s) (k : Keeps (fun _ => False) w w')
  | old (id : Nat) (x : PE) (he : e = .returned (.tuple #[.int .i64 id, .int .i64 0])) (hx : E[id]? = some x) (hu : 0 < x.users) (hk : x.key = key) (h : IsPo w' B p a n (E.set id { x with users := x.users + 1 }) EA cap mb D) (hA : IsAr w' B a s)
      (v : PInv (E.set id { x with users := x.users + 1 }) s D (M + 1)) (k : Keeps (PoS B w) w w')
  | new (id : Nat) (x : PE) (E1 : List PE) (EA1 : Option Addr) (cap1 i k : Nat) (age : Int) (s1 s2 : Ar) (L2 : Nat → List Nat) (he : e = .returned (.tuple #[.int .i64 id, .int .i64 0])) (hk1 : 1 ≤ key.length) (hk2 : key.length ≤ 255) (hno : NoKey E key) (hn : (cntU E : Int) ≠ n) (hE1 : E1 = E ∨ E1 = E ++ [PE.zero])
      (hx : E1[id]? = some x) (hu : x.users = 0) (h1 : 1 ≤ id) (hleast : ∀ (j : Nat) (y : PE), 1 ≤ j → j < id → E[j]? = some y → y.users ≠ 0)
      (h : IsPo w' B p a n (E1.set id ⟨(i, k, age), key, 1⟩) EA1 cap1 mb (D.put (.string key) (kval id))) (hA : IsAr w' B a s2) (hV : Inv s2 L2 (M2 + 1)) (g : Got s s1 i k age key.length) (wr : Wrote s1 s2 i k age key) (hage : 1 ≤ age ∧ age ≤ M2 + 1) (hfit : fitK s.cls key.length = i)
      (v : PInv (E1.set id ⟨(i, k, age), key, 1⟩) s2 (D.put (.string key) (kval id)) (M + 1)) (k : Keeps (PoS B w) w w')
set_option maxRecDepth 100000 in
set_option maxHeartbeats 2000000 in
theorem pintern_ok (w : World) (B p a mb cap : Nat) (n : Int) (E : List PE) (EA : Option Addr) (D : KD) (s : Ar) (L : Nat → List Nat) (M M2 : Int) (t : ByteArray)
    (h : IsPo w B p a n E EA cap mb D) (hA : IsAr w B a s) (hV : Inv s L M2) (v : PInv E s D M) (hM : M ≤ 900000) (hM2 : 0 ≤ M2 ∧ M2 < 1000000000) (ht : t.size ≤ 140737488351232) (hB : B ≤ w.heap.size) :
    Calls Try.prog 39 #[.pointer (some ⟨p, 0, none⟩), .string t] w (Interns w B p a mb cap n E EA D s L M M2 t.data.toList) := by
  have hlen : t.data.toList.length = t.size := by rw [Array.length_toList]; rfl
  obtain ⟨⟨p0, p1, p2, p3⟩, hpw⟩ := h.cells
  have H := hide h
  have HA := hide hA
  have HP := hide v
  by_cases h0 : t.size = 0
  · have HK : Hid (t.data.toList = []) := hide (List.eq_nil_of_length_eq_zero (by omega))
    have hne : t.toList.isEmpty = true := by rw [ByteArray.toList_eq, HK.out]; rfl
    clear h hA hV v h0 ht
    go_enter Try.func39, Try.ntmps39
    go_wp2_with fail
    go_ret2
    exact .no 3 rfl (.inl ⟨HK.out, rfl⟩) H.out HA.out (Keeps.refl _ _)
  have hne : t.toList.isEmpty = false := by
    rw [ByteArray.toList_eq]
    rcases hx : t.data.toList with _ | _
    · rw [hx] at hlen; simp at hlen; omega
    · rfl
  by_cases h255 : 255 < t.size
  · have e1 : decide ((255 : Int) < (t.size : Int)) = true := by simp; omega
    have HL := hide (show 255 < t.data.toList.length by omega)
    clear h hA hV v h0 hlen
    go_enter Try.func39, Try.ntmps39
    go_wp2_with fail
    go_ret2
    exact .no 4 rfl (.inr (.inl ⟨HL.out, rfl⟩)) H.out HA.out (Keeps.refl _ _)
  have e1 : decide ((255 : Int) < (t.size : Int)) = false := by simp; omega
  have hEl : E.length ≤ 1000000 := by have := v.len; omega
  obtain ⟨l1, l2⟩ := look_ok h.map v.says t (by simp only [maxLen]; omega)
  rcases key_or E t.data.toList with hno | ⟨id, x, hx, hu, hk⟩
  · have hl := l2 hno
    have HNo := hide hno
    obtain ⟨cn, hcn⟩ : ∃ cn, cn = cntU E := ⟨_, rfl⟩
    have HSz := hide (v.says.sz.trans hcn.symm)
    have HCn := hide hcn
    have HV := hide hV
    have hE0 : 0 < E.length := by obtain ⟨y, h2, _⟩ := v.zero; exact (List.getElem?_eq_some_iff.1 h2).1
    obtain ⟨N, hN⟩ : ∃ N, N = E.length := ⟨_, rfl⟩
    rw [← hN] at p2 hEl hE0
    have HN := hide hN
    have ht1 : 1 ≤ t.size := by omega
    have HLen := hide hlen
    clear l1 l2 h hA hV v hno hcn hN hlen
    have HS0 : Hid (Keeps (fun _ => False) w w.drew ∧ w.drew.cell? ⟨p, 1, none⟩ = some (.int .i64 n) ∧ w.drew.cell? ⟨p, 3, none⟩ = some (.map (some mb))) := hide ⟨(Keeps.refl _ _).drew, p1, p3⟩
    have HMd : Hid (w.drew.ownsMap Try.prog 9 (plainElem Try.prog 3) mb (Maps.size D) D) := hide (by have := H.out.map; exact this)
    by_cases hfull : (cn : Int) = n
    · have hfb : ((cn : Int) == n) = true := by simpa using hfull
      have HF := hide hfull
      clear hfull
      go_enter Try.func39, Try.ntmps39
      go_upto_region 11 with fail
      trace "R11"
      refine wp_region_held_drew (S := fun w' => Keeps (fun _ => False) w w' ∧ w'.cell? ⟨p, 1, none⟩ = some (.int .i64 n) ∧ w'.cell? ⟨p, 3, none⟩ = some (.map (some mb))) (by kernel_rfl) HS0.out (fun hHeld => ?_)
      refine wpAnyH_take (i := 0) (v := ?_) rfl (by kernel_rfl) (by kernel_rfl) (by kernel_rfl) (fun _ _ _ h => h) (Or.inl ⟨by first | kernel_rfl | rfl, ?_⟩) (by assumption) ?_; rotate_left; focus (intro w hSw; (try dsimp only at hSw); go_simp; try (with_reducible rfl)); (try simp only [Act.put, List.getElem_toArray, List.getElem_cons_succ, List.getElem_cons_zero, List.setIfInBounds_toArray, List.set_cons_zero, List.set_cons_succ])
      refine wpAnyH_take (i := 1) (v := ?_) rfl (by kernel_rfl) (by kernel_rfl) (by kernel_rfl) (fun _ _ _ h => h) (Or.inl ⟨by first | kernel_rfl | rfl, ?_⟩) (by assumption) ?_; rotate_left; focus (intro w hSw; (try dsimp only at hSw); go_simp; try (with_reducible rfl)); (try simp only [Act.put, List.getElem_toArray, List.getElem_cons_succ, List.getElem_cons_zero, List.setIfInBounds_toArray, List.set_cons_zero, List.set_cons_succ])
      refine wpAnyH_take (i := 2) (v := ?_) rfl (by kernel_rfl) (by kernel_rfl) (by kernel_rfl) (fun _ _ _ h => h) (Or.inl ⟨by first | kernel_rfl | rfl, ?_⟩) (by assumption) ?_; rotate_left; focus (intro w hSw; (try dsimp only at hSw); go_simp; try (with_reducible rfl)); (try simp only [Act.put, List.getElem_toArray, List.getElem_cons_succ, List.getElem_cons_zero, List.setIfInBounds_toArray, List.set_cons_zero, List.set_cons_succ])
      refine wpAnyH_take (i := 3) (v := ?_) rfl (by kernel_rfl) (by kernel_rfl) (by kernel_rfl) (fun _ _ _ h => h) (Or.inl ⟨by first | kernel_rfl | rfl, ?_⟩) (by assumption) ?_; rotate_left; focus (intro w hSw; (try dsimp only at hSw); go_simp; try (with_reducible rfl)); (try simp only [Act.put, List.getElem_toArray, List.getElem_cons_succ, List.getElem_cons_zero, List.setIfInBounds_toArray, List.set_cons_zero, List.set_cons_succ])
      refine wpAnyH_take (i := 5) (v := ?_) rfl (by kernel_rfl) (by kernel_rfl) (by kernel_rfl) (fun _ _ _ h => h) (Or.inl ⟨by first | kernel_rfl | rfl, ?_⟩) (by assumption) ?_; rotate_left; focus (intro w hSw; (try dsimp only at hSw); go_simp; try (with_reducible rfl)); (try simp only [Act.put, List.getElem_toArray, List.getElem_cons_succ, List.getElem_cons_zero, List.setIfInBounds_toArray, List.set_cons_zero, List.set_cons_succ])
      refine wpAnyH_take (i := 6) (v := ?_) rfl (by kernel_rfl) (by kernel_rfl) (by kernel_rfl) (fun _ _ _ h => h) (Or.inl ⟨by first | kernel_rfl | rfl, ?_⟩) (by assumption) ?_; rotate_left; focus (intro w hSw; (try dsimp only at hSw); go_simp; try (with_reducible rfl)); (try simp only [Act.put, List.getElem_toArray, List.getElem_cons_succ, List.getElem_cons_zero, List.setIfInBounds_toArray, List.set_cons_zero, List.set_cons_succ])
      refine wpAnyH_take (i := 7) (v := ?_) rfl (by kernel_rfl) (by kernel_rfl) (by kernel_rfl) (fun _ _ _ h => h) (Or.inl ⟨by first | kernel_rfl | rfl, ?_⟩) (by assumption) ?_; rotate_left; focus (intro w hSw; (try dsimp only at hSw); go_simp; try (with_reducible rfl)); (try simp only [Act.put, List.getElem_toArray, List.getElem_cons_succ, List.getElem_cons_zero, List.setIfInBounds_toArray, List.set_cons_zero, List.set_cons_succ])
      refine wpAnyH_take (i := 8) (v := ?_) rfl (by kernel_rfl) (by kernel_rfl) (by kernel_rfl) (fun _ _ _ h => h) (Or.inl ⟨by first | kernel_rfl | rfl, ?_⟩) (by assumption) ?_; rotate_left; focus (intro w hSw; (try dsimp only at hSw); go_simp; try (with_reducible rfl)); (try simp only [Act.put, List.getElem_toArray, List.getElem_cons_succ, List.getElem_cons_zero, List.setIfInBounds_toArray, List.set_cons_zero, List.set_cons_succ])
      refine wpAnyH_ready (rs := [4]) (by kernel_rfl) (by simp) ?_
      refine AllReadyH.cons rfl (fun K hK => ?_) AllReadyH.nil
      refine step_len_map (P := Try.prog) (R := plainElem Try.prog 3) (D := D) rfl (.tmp 47) 142 rfl 9 3 ?ht mb (Maps.size D) ?hm ?hown ?_
      case ht => exact Try.underlying142
      case hm => simp [Act.eval, Act.put]
      case hown => exact HMd.out
      trace "LEN"
      rw [HSz.out]
      refine hK.out _ _ HS0.out (fun _ => ?_)
      clear hK K
      (try simp only [Act.put, List.getElem_toArray, List.getElem_cons_succ, List.getElem_cons_zero, List.setIfInBounds_toArray, List.set_cons_zero, List.set_cons_succ])
      refine wpAnyH_take (i := 9) (v := ?_) rfl (by kernel_rfl) (by kernel_rfl) (by kernel_rfl) (fun _ _ _ h => h) (Or.inl ⟨by first | kernel_rfl | rfl, ?_⟩) (by assumption) ?_; rotate_left; focus (intro w hSw; (try dsimp only at hSw); go_simp; try (with_reducible rfl)); (try simp only [Act.put, List.getElem_toArray, List.getElem_cons_succ, List.getElem_cons_zero, List.setIfInBounds_toArray, List.set_cons_zero, List.set_cons_succ])
      refine wpAnyH_done (by kernel_rfl) ?_ _
      (try simp only [Act.put, List.getElem_toArray, List.getElem_cons_succ, List.getElem_cons_zero, List.setIfInBounds_toArray, List.set_cons_zero, List.set_cons_succ])
      trace "R11b"
      go_wp2_with fail
      trace "FULL"
      go_ret2
      exact .no 7 rfl (.inr (.inr (.inl ⟨by have := HLen.out; omega, by have := HLen.out; omega, HNo.out, by rw [← HCn.out]; exact HF.out, rfl⟩))) (H.out.quiet HS0.out.1) (HA.out.quiet HS0.out.1) HS0.out.1
    · have hfb : ((cn : Int) == n) = false := by simpa using hfull
      have HF := hide hfull
      clear hfull
      go_enter Try.func39, Try.ntmps39
      go_upto_region 11 with fail
      trace "R11"
      refine wp_region_held_drew (S := fun w' => Keeps (fun _ => False) w w' ∧ w'.cell? ⟨p, 1, none⟩ = some (.int .i64 n) ∧ w'.cell? ⟨p, 3, none⟩ = some (.map (some mb))) (by kernel_rfl) HS0.out (fun hHeld => ?_)
      refine wpAnyH_take (i := 0) (v := ?_) rfl (by kernel_rfl) (by kernel_rfl) (by kernel_rfl) (fun _ _ _ h => h) (Or.inl ⟨by first | kernel_rfl | rfl, ?_⟩) (by assumption) ?_; rotate_left; focus (intro w hSw; (try dsimp only at hSw); go_simp; try (with_reducible rfl)); (try simp only [Act.put, List.getElem_toArray, List.getElem_cons_succ, List.getElem_cons_zero, List.setIfInBounds_toArray, List.set_cons_zero, List.set_cons_succ])
      refine wpAnyH_take (i := 1) (v := ?_) rfl (by kernel_rfl) (by kernel_rfl) (by kernel_rfl) (fun _ _ _ h => h) (Or.inl ⟨by first | kernel_rfl | rfl, ?_⟩) (by assumption) ?_; rotate_left; focus (intro w hSw; (try dsimp only at hSw); go_simp; try (with_reducible rfl)); (try simp only [Act.put, List.getElem_toArray, List.getElem_cons_succ, List.getElem_cons_zero, List.setIfInBounds_toArray, List.set_cons_zero, List.set_cons_succ])
      refine wpAnyH_take (i := 2) (v := ?_) rfl (by kernel_rfl) (by kernel_rfl) (by kernel_rfl) (fun _ _ _ h => h) (Or.inl ⟨by first | kernel_rfl | rfl, ?_⟩) (by assumption) ?_; rotate_left; focus (intro w hSw; (try dsimp only at hSw); go_simp; try (with_reducible rfl)); (try simp only [Act.put, List.getElem_toArray, List.getElem_cons_succ, List.getElem_cons_zero, List.setIfInBounds_toArray, List.set_cons_zero, List.set_cons_succ])
      refine wpAnyH_take (i := 3) (v := ?_) rfl (by kernel_rfl) (by kernel_rfl) (by kernel_rfl) (fun _ _ _ h => h) (Or.inl ⟨by first | kernel_rfl | rfl, ?_⟩) (by assumption) ?_; rotate_left; focus (intro w hSw; (try dsimp only at hSw); go_simp; try (with_reducible rfl)); (try simp only [Act.put, List.getElem_toArray, List.getElem_cons_succ, List.getElem_cons_zero, List.setIfInBounds_toArray, List.set_cons_zero, List.set_cons_succ])
      refine wpAnyH_take (i := 5) (v := ?_) rfl (by kernel_rfl) (by kernel_rfl) (by kernel_rfl) (fun _ _ _ h => h) (Or.inl ⟨by first | kernel_rfl | rfl, ?_⟩) (by assumption) ?_; rotate_left; focus (intro w hSw; (try dsimp only at hSw); go_simp; try (with_reducible rfl)); (try simp only [Act.put, List.getElem_toArray, List.getElem_cons_succ, List.getElem_cons_zero, List.setIfInBounds_toArray, List.set_cons_zero, List.set_cons_succ])
      refine wpAnyH_take (i := 6) (v := ?_) rfl (by kernel_rfl) (by kernel_rfl) (by kernel_rfl) (fun _ _ _ h => h) (Or.inl ⟨by first | kernel_rfl | rfl, ?_⟩) (by assumption) ?_; rotate_left; focus (intro w hSw; (try dsimp only at hSw); go_simp; try (with_reducible rfl)); (try simp only [Act.put, List.getElem_toArray, List.getElem_cons_succ, List.getElem_cons_zero, List.setIfInBounds_toArray, List.set_cons_zero, List.set_cons_succ])
      refine wpAnyH_take (i := 7) (v := ?_) rfl (by kernel_rfl) (by kernel_rfl) (by kernel_rfl) (fun _ _ _ h => h) (Or.inl ⟨by first | kernel_rfl | rfl, ?_⟩) (by assumption) ?_; rotate_left; focus (intro w hSw; (try dsimp only at hSw); go_simp; try (with_reducible rfl)); (try simp only [Act.put, List.getElem_toArray, List.getElem_cons_succ, List.getElem_cons_zero, List.setIfInBounds_toArray, List.set_cons_zero, List.set_cons_succ])
      refine wpAnyH_take (i := 8) (v := ?_) rfl (by kernel_rfl) (by kernel_rfl) (by kernel_rfl) (fun _ _ _ h => h) (Or.inl ⟨by first | kernel_rfl | rfl, ?_⟩) (by assumption) ?_; rotate_left; focus (intro w hSw; (try dsimp only at hSw); go_simp; try (with_reducible rfl)); (try simp only [Act.put, List.getElem_toArray, List.getElem_cons_succ, List.getElem_cons_zero, List.setIfInBounds_toArray, List.set_cons_zero, List.set_cons_succ])
      refine wpAnyH_ready (rs := [4]) (by kernel_rfl) (by simp) ?_
      refine AllReadyH.cons rfl (fun K hK => ?_) AllReadyH.nil
      refine step_len_map (P := Try.prog) (R := plainElem Try.prog 3) (D := D) rfl (.tmp 47) 142 rfl 9 3 ?ht mb (Maps.size D) ?hm ?hown ?_
      case ht => exact Try.underlying142
      case hm => simp [Act.eval, Act.put]
      case hown => exact HMd.out
      trace "LEN"
      rw [HSz.out]
      refine hK.out _ _ HS0.out (fun _ => ?_)
      clear hK K
      (try simp only [Act.put, List.getElem_toArray, List.getElem_cons_succ, List.getElem_cons_zero, List.setIfInBounds_toArray, List.set_cons_zero, List.set_cons_succ])
      refine wpAnyH_take (i := 9) (v := ?_) rfl (by kernel_rfl) (by kernel_rfl) (by kernel_rfl) (fun _ _ _ h => h) (Or.inl ⟨by first | kernel_rfl | rfl, ?_⟩) (by assumption) ?_; rotate_left; focus (intro w hSw; (try dsimp only at hSw); go_simp; try (with_reducible rfl)); (try simp only [Act.put, List.getElem_toArray, List.getElem_cons_succ, List.getElem_cons_zero, List.setIfInBounds_toArray, List.set_cons_zero, List.set_cons_succ])
      refine wpAnyH_done (by kernel_rfl) ?_ _
      (try simp only [Act.put, List.getElem_toArray, List.getElem_cons_succ, List.getElem_cons_zero, List.setIfInBounds_toArray, List.set_cons_zero, List.set_cons_succ])
      trace "R11b"
      go_upto_region 13 with fail
      trace "R13"
      generalize hwq : w.drew = w1 at *
      have K1 : Hid (Keeps (fun _ => False) w w1) := hide HS0.out.1
      clear HS0
      have hB1 : B ≤ w1.heap.size := Nat.le_trans hB K1.out.size
      have H1 := hide (H.out.quiet K1.out)
      have HA1 := hide (HA.out.quiet K1.out)
      clear hwq p0 p1 p2 p3 hl
      obtain ⟨⟨p0, p1, p2, p3⟩, hpw1⟩ := H1.out.cells
      go_wp2_with fail
      trace "ALLOC"
      refine (alloc_any B a s L M2 _ w1 HA1.out HV.out hM2 hB1).mono ?_
      rintro e w3 hal
      rcases hal with ⟨rfl, h3, k3, hr⟩ | ⟨rfl, h3, k3, hr⟩ | ⟨i, k, age, s1, L1, rfl, h3, v3, g3, hage, k3, hfit⟩
      · have kb := (Keeps.refl (fun _ => False) w3).alloc (.cells #[.int .i64 0, .int .i64 0, .int .i64 0] 40)
        have H3 := hide ((H1.out.quiet k3).quiet kb)
        have HA3 := hide (h3.quiet kb)
        have K3 := hide ((K1.out.trans k3).trans kb)
        have HR := hide hr
        clear h3 k3 kb hr H1 HA1 p0 p1 p2 p3
        go_wp2_with fail
        trace "NO1"
        go_ret2
        exact .no 1 rfl (.inr (.inr (.inr ⟨by have := HLen.out; omega, by have := HLen.out; omega, HNo.out, by rw [← HCn.out]; exact HF.out, by have := HR.out; rw [← HLen.out] at this; exact .inl ⟨rfl, this⟩⟩))) H3.out HA3.out K3.out
      · have kb := (Keeps.refl (fun _ => False) w3).alloc (.cells #[.int .i64 0, .int .i64 0, .int .i64 0] 40)
        have H3 := hide ((H1.out.quiet k3).quiet kb)
        have HA3 := hide (h3.quiet kb)
        have K3 := hide ((K1.out.trans k3).trans kb)
        have HR := hide hr
        clear h3 k3 kb hr H1 HA1 p0 p1 p2 p3
        go_wp2_with fail
        trace "NO7"
        go_ret2
        exact .no 7 rfl (.inr (.inr (.inr ⟨by have := HLen.out; omega, by have := HLen.out; omega, HNo.out, by rw [← HCn.out]; exact HF.out, by have := HR.out; rw [← HLen.out] at this; exact .inr ⟨rfl, this⟩⟩))) H3.out HA3.out K3.out
      · obtain ⟨c, hc, hcs, hcl⟩ := g3.fit
        have HX4 := hide (Blk.new w3 40 #[.int .i64 i, .int .i64 k, .int .i64 age])
        have kb := (Keeps.refl (fun _ => False) w3).alloc (.cells #[.int .i64 i, .int .i64 k, .int .i64 age] 40)
        have H4 := hide ((H1.out.ar k3).quiet kb)
        have HA4 := hide (h3.quiet kb)
        have HV4 := hide v3
        have HG := hide g3
        have K4 := hide ((PoS.quiet K1.out (PoS.ar k3)).step0 kb)
        have hB4 := Nat.le_trans hB1 (Nat.le_trans k3.size kb.size)
        have HFit : Hid (fitK s.cls t.data.toList.length = i) := hide (by rw [HLen.out]; exact hfit)
        have hlv : LV s1 i k age [] := (g3.lvs i k age []).2 (.inl ⟨rfl, rfl, rfl, rfl⟩)
        obtain ⟨c1, hc1⟩ : ∃ c1, s1.cls[i]? = some c1 := by obtain ⟨c1, x1, h1, _⟩ := hlv; exact ⟨c1, h1⟩
        have hsz : (t.size : Int) ≤ c1.size := by rw [shapeP_at g3.shape hc hc1]; exact hcs
        have HLv := hide hlv
        have HC1 := hide hc1
        have hcv := fun W => Lib.run_convert_string_bytes (P := Try.prog) W 9 54 5 t Try.underlying9 Try.underlying54 Try.underlying5
        clear h3 k3 kb hfit H1 HA1 p0 p1 p2 p3 g3 v3 hlv hc1 hc hcs hcl
        go_upto_region 14 with fail
        trace "OK14"
        generalize w3.alloc _ = w4 at *
        generalize w3.heap.size = X at *
        go_upto_region 16 with fail
        trace "OK16"
        obtain ⟨⟨p0, p1, p2, p3⟩, hpw4⟩ := H4.out.cells
        obtain ⟨⟨x0, x1, x2⟩, _, hX4⟩ := HX4.out.three
        have HSg : Hid (∀ W, Keeps (ArS B w4) w4 W → (Keeps (ArS B w4) w4 W ∧ W.cell? ⟨p, 0, none⟩ = some (.pointer (some ⟨a, 0, none⟩)) ∧ W.cell? ⟨X, 0, none⟩ = some (.int .i64 i) ∧ W.cell? ⟨X, 1, none⟩ = some (.int .i64 k) ∧ W.cell? ⟨X, 2, none⟩ = some (.int .i64 age))) := hide (fun W kW => by
          have n1 := ArS.not (B := B) H4.out.blk (by decide) (by decide) (by decide)
          have n2 := ArS.not (B := B) HX4.out (by decide) (by decide) (by decide)
          exact ⟨kW, kW.cell_some p0 n1, kW.cell_some x0 n2, kW.cell_some x1 n2, kW.cell_some x2 n2⟩)
        refine wp_region_held_drew (S := fun W => Keeps (ArS B w4) w4 W ∧ W.cell? ⟨p, 0, none⟩ = some (.pointer (some ⟨a, 0, none⟩)) ∧ W.cell? ⟨X, 0, none⟩ = some (.int .i64 i) ∧ W.cell? ⟨X, 1, none⟩ = some (.int .i64 k) ∧ W.cell? ⟨X, 2, none⟩ = some (.int .i64 age)) (by kernel_rfl) (HSg.out _ ((Keeps.refl _ _).drew)) (fun hHeld => ?_)
        refine wpAnyH_take (i := 0) (v := ?_) rfl (by kernel_rfl) (by kernel_rfl) (by kernel_rfl) (fun _ _ _ h => h) (Or.inl ⟨by first | kernel_rfl | rfl, ?_⟩) (by assumption) ?_; rotate_left; focus (intro w hSw; (try dsimp only at hSw); go_simp; try (with_reducible rfl)); (try simp only [Act.put, List.getElem_toArray, List.getElem_cons_succ, List.getElem_cons_zero, List.setIfInBounds_toArray, List.set_cons_zero, List.set_cons_succ])
        refine wpAnyH_take (i := 1) (v := ?_) rfl (by kernel_rfl) (by kernel_rfl) (by kernel_rfl) (fun _ _ _ h => h) (Or.inl ⟨by first | kernel_rfl | rfl, ?_⟩) (by assumption) ?_; rotate_left; focus (intro w hSw; (try dsimp only at hSw); go_simp; try (with_reducible rfl)); (try simp only [Act.put, List.getElem_toArray, List.getElem_cons_succ, List.getElem_cons_zero, List.setIfInBounds_toArray, List.set_cons_zero, List.set_cons_succ])
        refine wpAnyH_take (i := 2) (v := ?_) rfl (by kernel_rfl) (by kernel_rfl) (by kernel_rfl) (fun _ _ _ h => h) (Or.inl ⟨by first | kernel_rfl | rfl, ?_⟩) (by assumption) ?_; rotate_left; focus (intro w hSw; (try dsimp only at hSw); go_simp; try (with_reducible rfl)); (try simp only [Act.put, List.getElem_toArray, List.getElem_cons_succ, List.getElem_cons_zero, List.setIfInBounds_toArray, List.set_cons_zero, List.set_cons_succ])
        refine wpAnyH_take (i := 3) (v := ?_) rfl (by kernel_rfl) (by kernel_rfl) (by kernel_rfl) (fun _ _ _ h => h) (Or.inl ⟨by first | kernel_rfl | rfl, ?_⟩) (by assumption) ?_; rotate_left; focus (intro w hSw; (try dsimp only at hSw); go_simp; try (with_reducible rfl)); (try simp only [Act.put, List.getElem_toArray, List.getElem_cons_succ, List.getElem_cons_zero, List.setIfInBounds_toArray, List.set_cons_zero, List.set_cons_succ])
        refine wpAnyH_take (i := 4) (v := ?_) rfl (by kernel_rfl) (by kernel_rfl) (by kernel_rfl) (fun _ _ _ h => h) (Or.inl ⟨by first | kernel_rfl | rfl, ?_⟩) (by assumption) ?_; rotate_left; focus (intro w hSw; (try dsimp only at hSw); go_simp; try (with_reducible rfl)); (try simp only [Act.put, List.getElem_toArray, List.getElem_cons_succ, List.getElem_cons_zero, List.setIfInBounds_toArray, List.set_cons_zero, List.set_cons_succ])
        refine wpAnyH_take (i := 5) (v := ?_) rfl (by kernel_rfl) (by kernel_rfl) (by kernel_rfl) (fun _ _ _ h => h) (Or.inl ⟨by first | kernel_rfl | rfl, ?_⟩) (by assumption) ?_; rotate_left; focus (intro w hSw; (try dsimp only at hSw); go_simp; try (with_reducible rfl)); (try simp only [Act.put, List.getElem_toArray, List.getElem_cons_succ, List.getElem_cons_zero, List.setIfInBounds_toArray, List.set_cons_zero, List.set_cons_succ])
        refine wpAnyH_ready (rs := [6]) (by kernel_rfl) (by simp) ?_
        refine AllReadyH.cons rfl (fun K hK => ?_) AllReadyH.nil
        go_simp
        trace "CONV"
        have k5 : Keeps (fun _ => False) w4 (Lib.bytesWorld w4.drew 5 t) := ((Keeps.refl _ w4).drew).trans (keeps_bytes _ _ _)
        have RB := hide (show Rd (Lib.bytesWorld w4.drew 5 t) (Lib.bytesWorld w4.drew 5 t).heap.size (some ⟨w4.heap.size, 0, none⟩) 1 t.size (t.data.toList.map by8) from rd_bytes w4.drew t)
        refine hK.out _ _ (HSg.out _ (k5.weak (fun _ _ h => h.elim))) (fun _ => ?_)
        clear hK K
        generalize Lib.bytesWorld _ _ _ = w5 at *
        (try simp only [Act.put, List.getElem_toArray, List.getElem_cons_succ, List.getElem_cons_zero, List.setIfInBounds_toArray, List.set_cons_zero, List.set_cons_succ])
        refine wpAnyH_ready (rs := [7]) (by kernel_rfl) (by simp) ?_
        refine AllReadyH.cons rfl (fun K hK => ?_) AllReadyH.nil
        go_simp
        trace "WRITE"
        go_at_call 31
        refine (write_any B a s1 L1 (M2 + 1) i k age [] c1 _ t.size _ _ t.data.toList w5 (HA4.out.quiet k5) HV4.out HLv.out HC1.out hsz RB.out (Nat.le_refl _) (Nat.le_trans hB4 k5.size)).mono ?_
        rintro e w6 ⟨rfl, ⟨s2, L2, h6, v6, wr6⟩, k6⟩
        have k46 := ArS.quiet k5 k6
        try go_wp2_with fail
        trace "WRITTEN"
        refine hK.out _ _ (HSg.out _ k46) (fun _ => ?_)
        clear hK K
        (try simp only [Act.put, List.getElem_toArray, List.getElem_cons_succ, List.getElem_cons_zero, List.setIfInBounds_toArray, List.set_cons_zero, List.set_cons_succ])
        refine wpAnyH_take (i := 8) (v := ?_) rfl (by kernel_rfl) (by kernel_rfl) (by kernel_rfl) (fun _ _ _ h => h) (Or.inl ⟨by first | kernel_rfl | rfl, ?_⟩) (by assumption) ?_; rotate_left; focus (intro w hSw; (try dsimp only at hSw); go_simp; try (with_reducible rfl)); (try simp only [Act.put, List.getElem_toArray, List.getElem_cons_succ, List.getElem_cons_zero, List.setIfInBounds_toArray, List.set_cons_zero, List.set_cons_succ])
        refine wpAnyH_done (by kernel_rfl) ?_ _
        (try simp only [Act.put, List.getElem_toArray, List.getElem_cons_succ, List.getElem_cons_zero, List.setIfInBounds_toArray, List.set_cons_zero, List.set_cons_succ])
        have H6 := hide (H4.out.ar k46)
        have HA6 := hide h6
        have HV6 := hide v6
        have HW6 := hide wr6
        have HX6 := hide (HX4.out.kept k46 (ArS.not HX4.out (by decide) (by decide) (by decide)))
        have K6 := hide (PoS.trans K4.out (PoS.ar k46))
        have hB6 : B ≤ w6.heap.size := Nat.le_trans hB4 k46.size
        clear hHeld HSg H4 HA4 HX4 RB k5 k6 k46 h6 v6 wr6 p0 p1 p2 p3 x0 x1 x2 hX4 HLv HC1 hsz hcv
        go_upto_region 19 with fail
        trace "R19"
        go_wp2_with fail
        trace "FREE"
        refine (pfree_ok w6 B p a n E EA cap mb D H6.out (by rw [← HN.out]; exact hE0) (by rw [← HN.out]; exact hEl) hB6).mono ?_
        rintro e w7 ⟨E1, EA1, cap1, id, x, rfl, h7, hE1, hx, hu, hid1, hleast, k7⟩
        have HA7 := hide (HA6.out.kept k7 (fun b hb => PoO.other hb))
        have HX7 := hide (HX6.out.kept k7 (PoO.not HX6.out (by decide) (by decide)))
        have K7 := hide (PoS.trans K6.out (PoS.po k7))
        have H7 := hide h7
        have HE1 := hide hE1
        have HXx := hide hx
        have HLe := hide hleast
        have hidl : id < E1.length := (List.getElem?_eq_some_iff.1 hx).1
        have hE1l : E1.length ≤ N + 1 := by rw [HN.out]; rcases hE1 with rfl | rfl <;> simp
        obtain ⟨g, rfl, hg1, hg2⟩ := h7.own.some_ (by omega)
        obtain ⟨N1, hN1⟩ : ∃ N1, N1 = E1.length := ⟨_, rfl⟩
        have HN1 := hide hN1
        obtain ⟨⟨p0, p1, p2, p3⟩, hpw7⟩ := h7.cells
        rw [← hN1] at p2 hidl hE1l
        have hw4 : ∀ q, w7.frozen? ⟨g, q, none⟩ = false := fun q => h7.own.frozen q
        have v0 := h7.own.cell (id * 4) (by omega)
        rw [(peCs_at hx).1] at v0
        have v1 := h7.own.cell (id * 4 + 1) (by omega)
        rw [(peCs_at hx).2.1] at v1
        have v2 := h7.own.cell (id * 4 + 2) (by omega)
        rw [(peCs_at hx).2.2.1] at v2
        have v3 := h7.own.cell (id * 4 + 3) (by omega)
        rw [(peCs_at hx).2.2.2] at v3
        have f0 := hw4 (id * 4)
        have f1 := hw4 (id * 4 + 1)
        have f2 := hw4 (id * 4 + 2)
        have f3 := hw4 (id * 4 + 3)
        have hiI : (id : Int) < (N1 : Int) := by omega
        have hi00 : (0 : Int) ≤ (id : Int) := by omega
        obtain ⟨⟨x0, x1, x2⟩, _, hX7⟩ := HX7.out.three
        clear h7 hE1 hx hleast k7 hN1 H6 HA6 HX6 K6 hw4
        go_upto_region 20 with fail
        trace "R20"
        go_region
        trace "R20b"
        obtain ⟨he8, ke8⟩ := H7.out.entry HXx.out ⟨(i, k, age), t.data.toList, 1⟩
        dsimp only at he8 ke8
        have H8 := hide (he8.quiet ((Keeps.refl (fun _ => False) _).drew))
        have HA8 := hide ((HA7.out.kept ke8 (fun b hb => by subst hb; exact H7.out.other ⟨_, rfl, rfl⟩)).quiet ((Keeps.refl (fun _ => False) _).drew))
        have K8 := hide (PoS.trans K7.out (Keeps.drew (ke8.weak (S' := PoS B w7) (fun b _ hb => by subst hb; exact H7.out.inE ⟨_, rfl, rfl⟩))))
        clear he8 ke8 H7 HA7 K7 p0 p1 p2 p3 v0 v1 v2 v3 f0 f1 f2 f3 x0 x1 x2 hX7 HX7 hpw7
        generalize World.drew _ = w8 at *
        have hu0 : x.users = 0 := hu
        have HP1 : Hid (PInv E1 s D (M + 1)) := hide (by rcases HE1.out with e | e <;> rw [e]; exact HP.out.more (by omega); exact HP.out.grow)
        have HNo1 : Hid (NoKey E1 t.data.toList) := hide (by
          rcases HE1.out with e | e
          · rw [e]; exact HNo.out
          · rw [e]
            intro j y hy hyu
            rw [List.getElem?_append] at hy
            split at hy
            · exact HNo.out j y hy hyu
            · have := List.mem_of_getElem? hy
              simp at this
              subst this
              simp [PE.zero] at hyu)
        have hM1 : 1 ≤ M + 1 := by have := HP.out.len; have := HN.out; omega
        have HP2 := hide (HP1.out.put hM1 HXx.out hu0 hid1 (key := t.data.toList) (by have := HLen.out; omega) (by have := HLen.out; omega) HG.out HW6.out HNo1.out)
        have hszD : Maps.size D < maxLen := by rw [HSz.out, HCn.out]; have := cntU_le E; have := HN.out; simp only [maxLen]; omega
        have hwf := wf_id id (by omega)
        have hkey := key_of (s := t) (by simp only [maxLen]; omega)
        obtain ⟨⟨p0, p1, p2, p3⟩, hpw8⟩ := H8.out.cells
        go_wp2_with (at_mapUpdate; refine wpList_mapUpdate_own _ rfl _ _ _ 142 rfl 9 3 (string_keyed Try.underlying9) Try.underlying142 (plainElem Try.prog 3) mb (Maps.size D) D rfl H8.out.map hszD _ _ (.string t.data.toList) rfl rfl hkey (kval id) [] (plainElem_int Try.underlying3 hwf) ?_; intro w9 hown9 hgrow9; have k9 := keep_map hgrow9; have H9 := hide (H8.out.mapped k9 (map_tight hown9)); have HA9 := hide (HA8.out.mapped H8.out k9); have K9 := hide (PoS.trans K8.out (k9.weak (S' := PoS B w8) (fun b _ hb => by subst hb; exact H8.out.inM))); clear hown9 hgrow9 k9)
        trace "MAP"
        go_ret2
        exact .new id x E1 _ cap1 i k age s1 s2 L2 rfl (by have := HLen.out; omega) (by have := HLen.out; omega) HNo.out (by rw [← HCn.out]; exact HF.out) HE1.out HXx.out hu0 hid1 HLe.out H9.out HA9.out HV6.out (by rw [HLen.out]; exact HG.out) HW6.out hage HFit.out HP2.out K9.out
  · have hl := l1 id x hx hu hk
    have hid : id < E.length := (List.getElem?_eq_some_iff.1 hx).1
    obtain ⟨g, rfl, _⟩ := h.own.some_ (by omega)
    obtain ⟨_, _, _, g3⟩ := peCs_at hx
    have q3 := h.own.cell (id * 4 + 3) (by omega)
    have f3 := h.own.frozen (id * 4 + 3)
    rw [g3] at q3
    have hus := (v.us id x hx).2
    have hgw : g < w.heap.size := by
      have hi : inB (some ⟨g, 0, none⟩ : Option Addr) g := ⟨_, rfl, rfl⟩
      exact (h.own.inB hi).2
    obtain ⟨N, hN⟩ : ∃ N, N = E.length := ⟨_, rfl⟩
    rw [← hN] at p2 hid hEl
    have hiI : (id : Int) < (N : Int) := by omega
    have hi00 : (0 : Int) ≤ (id : Int) := by omega
    have ws : IntKind.i64.wrap (x.users + 1) = x.users + 1 := IntWalk.i64_in _ (by omega)
    have HX := hide hx
    have HK := hide hk
    have kS := keepsOne w g (id * 4 + 3) (.int .i64 (x.users + 1))
    have H2 := hide (H.out.users hx (x.users + 1))
    have HA2 := hide (hA.kept kS (fun b hb => by subst hb; exact H.out.other ⟨_, rfl, rfl⟩))
    have K2 := hide (kS.weak (S' := PoS B w) (fun b _ hb => by subst hb; exact H.out.inE ⟨_, rfl, rfl⟩))
    clear l1 l2 h hA hV v hx hk hN g3 kS hlen
    go_enter Try.func39, Try.ntmps39
    go_wp2_with fail
    trace "OLD"
    go_ret2
    exact .old id x rfl HX.out hu HK.out H2.out HA2.out (HP.out.users HX.out hu (x.users + 1) (by omega) (by omega) (by omega)) K2.out
end Go.Proofs.Ytidobhflijdccaa
