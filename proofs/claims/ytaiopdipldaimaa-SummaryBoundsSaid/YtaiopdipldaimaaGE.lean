/-
  Encode: the regions that draw, of the program and of the reference. No conditions beyond those of the statement. Encode: the loops over entries and rows, of the program and of the reference. No conditions beyond those of the statement. Encode: the loops over rows, of the program and of the reference. No conditions beyond those of the statement. Encode by its contract, of the program and of the reference; the law's awake. No conditions beyond those of the statement.
-/
import Derived.Test.YtaiopdipldaimaaYh
import Derived.Test.YtaiopdipldaimaaVarintW
import Derived.OrdersHeld
import Derived.Test.YtaiopdipldaimaaGD
import Derived.Deep.CutBlock
import Derived.Test.YtaiopdipldaimaaSame
set_option linter.unusedVariables false
set_option linter.unusedSimpArgs false
namespace Go.Proofs.Ytaiopdipldaimaa
open Go.RowKit Vp
namespace enc21
section
variable {P : Program}
theorem wp_run {o : Oper} {a : Act} {K : Act → World → Prop} {Q : Exit → Act → World → Prop} {w w' : World} {v s' x' : Value} (s x : Operand) (t t2 : TypeId)
    (ho : o.op = .call { callee := .builtin .append, args := #[s, x], argTypes := #[t, t2] }) (hs : a.eval s = s') (hx : a.eval x = x')
    (hrun : (Builtin.append_ #[t, t2] o.type #[s', x']).run P w = .ok v w') (h : K (a.put o.dst v) w') : o.wp P a w K Q := by
  unfold Oper.wp execOp
  simp only [ho, resolve, invoke, builtin, Sem.run_bind, Sem.run_pure, Result.andThen_ok, List.map_toArray, List.map_cons, List.map_nil, hs, hx, hrun]
  exact h
end
/-- 'append(b, s...)', s a string, in a region that draws its order -/
theorem step_app_text {ops : Array Oper} {o : Oper} {a : Act} {K : Act → World → Prop} {Q : Exit → Act → World → Prop} {F : Prop} (w : World) (hgd : o.guard = none) (s x : Operand)
    (ho : o.op = .call { callee := .builtin .append, args := #[s, x], argTypes := #[46, 9] })
    (base : Nat) {A : Option Addr} {n c : Nat} (l : List UInt8) (hs : a.eval s = .slice A n c) (hown : Own w base 5 1 A n c (l.map by8))
    (b : ByteArray) (hx : a.eval x = .string b) (hb : b.size ≤ 35184372088832) (hn : n ≤ 35184372088832) (hbase : base ≤ w.heap.size)
    (h : ∀ A' c' w', Own w' base 5 1 A' (n + b.size) c' ((l ++ b.data.toList).map by8) → Keeps (inB A) w w' → (∀ k, inB A' k → inB A k ∨ w.heap.size ≤ k) → K (a.put o.dst (.slice A' (n + b.size) c')) w') :
    if Region.wanted o (yielded ops a.tmps) = true then Oper.wp Try.prog o a w K Q else F := by
  have hw : Region.wanted o (yielded ops a.tmps) = true := by simp [Region.wanted, hgd]
  rw [if_pos hw]
  have hi : (Try.prog.info? 5).map (fun i => (i.zero, i.size, i.bytes)) = some (some (.int .u8 0), 1, 1) := by kernel_rfl
  obtain ⟨i, h1, h2, h3, h4⟩ := info_parts hi
  obtain ⟨A', c', w', hrun, hw⟩ := apps_run (P := Try.prog) w 46 9 o.type 5 i (.int .u8 0) b Try.underlying46 Try.underlying9 h1 h2 h3 rfl (by omega) A n c (l.map by8) (hown.base_le (Nat.zero_le _)) (by simp only [maxLen]; omega) (by rw [h4]; omega) (by rw [h4]; omega)
  obtain ⟨k1, k2, k3⟩ := own_of_ways hown hbase (by simp) hw
  rw [← List.map_append] at k1
  exact wp_run s x _ _ ho hs hx hrun (h A' c' w' k1 k2 k3)
def findReg (q : Nat) : Code → Option Code
  | .region id ops b => if id = q then some (.region id ops b) else none
  | .loop c => findReg q c
  | .seq a b => match findReg q a with
    | some c => some c
    | none => findReg q b
  | .block _ c => findReg q c
  | .scope c => findReg q c
  | .cond _ a b => match findReg q a with
    | some c => some c
    | none => findReg q b
  | _ => none
def NormPost (W : Act → World → Prop) : Exit → Act → World → Prop
  | .normal, a, w => W a w
  | _, _, _ => False
noncomputable def srg17 : Code := ((Try.f26.body.bind (findReg 17)).getD .skip)
noncomputable def srg18 : Code := ((Try.f26.body.bind (findReg 18)).getD .skip)
set_option maxRecDepth 1000000 in
set_option maxHeartbeats 4000000 in
theorem sreg17 (w1 : World) (L : List UInt8) (A : Option Addr) (n c gx : Nat) (k : ByteArray) (hr : Rd w1 w1.heap.size A 1 n (L.map by8)) (hn : n ≤ 10000000) (hk : k.size ≤ 255) (ck : w1.cell? ⟨gx, 0, none⟩ = some (.string k)) (hgx : gx < w1.heap.size) (s0 s1 s2 s3 s4 s5 s7 s9 s10 s11 s12 s13 s14 s15 s16 s17 s18 s19 s20 s21 s22 s23 s24 s25 s26 s27 s28 s29 s30 s31 s32 s33 s34 s35 s36 s37 s38 s39 s40 s41 s42 s43 s44 s45 s46 s47 s48 s49 s50 s51 s52 s53 s54 s55 s56 s57 s58 s59 s60 s61 s62 s63 s64 s65 s66 s67 s68 s69 s70 s71 s72 s73 s74 s75 s76 s77 s78 s79 s80 s81 s82 s83 s84 s85 s86 s87 s88 s89 s90 s91 s92 s93 s94 s95 s96 s97 s98 s99 s100 s101 s102 s103 s104 : Value) :
    Code.wp Try.prog srg17 (NormPost fun a' w' => ∃ A' n' c', (Own w' w1.heap.size 5 1 A' n' c' ((L ++ enc k.size ++ k.data.toList).map by8) ∧ Keeps (fun _ => False) w1 w') ∧ (∃ u58 u59 u60 u61 u62 u63 u64 u65 u66 : Value, a' = ⟨#[s0, s1, s2, s3, s4, s5, .slice A' n' c', s7, .pointer (some ⟨gx, 0, none⟩), s9, s10, s11, s12, s13, s14, s15, s16, s17, s18, s19, s20, s21, s22, s23, s24, s25, s26, s27, s28, s29, s30, s31, s32, s33, s34, s35, s36, s37, s38, s39, s40, s41, s42, s43, s44, s45, s46, s47, s48, s49, s50, s51, s52, s53, s54, s55, s56, s57, u58, u59, u60, u61, u62, u63, u64, u65, u66, s67, s68, s69, s70, s71, s72, s73, s74, s75, s76, s77, s78, s79, s80, s81, s82, s83, s84, s85, s86, s87, s88, s89, s90, s91, s92, s93, s94, s95, s96, s97, s98, s99, s100, s101, s102, s103, s104], []⟩)) ⟨#[s0, s1, s2, s3, s4, s5, .slice A n c, s7, .pointer (some ⟨gx, 0, none⟩), s9, s10, s11, s12, s13, s14, s15, s16, s17, s18, s19, s20, s21, s22, s23, s24, s25, s26, s27, s28, s29, s30, s31, s32, s33, s34, s35, s36, s37, s38, s39, s40, s41, s42, s43, s44, s45, s46, s47, s48, s49, s50, s51, s52, s53, s54, s55, s56, s57, s58, s59, s60, s61, s62, s63, s64, s65, s66, s67, s68, s69, s70, s71, s72, s73, s74, s75, s76, s77, s78, s79, s80, s81, s82, s83, s84, s85, s86, s87, s88, s89, s90, s91, s92, s93, s94, s95, s96, s97, s98, s99, s100, s101, s102, s103, s104], []⟩ w1 := by
  have HR := hide (show Rd w1.drew w1.heap.size A 1 n (L.map by8) from hr)
  have hln : L.length = n := by simpa using hr.1
  have CK := hide ck
  have kd : Keeps (fun _ => False) w1 w1.drew := (Keeps.refl _ _).drew
  have ew : IntKind.u64.wrap (k.size : Int) = k.size := by rw [IntKind.wrap_u64]; omega
  clear hr
  conv => arg 2; whnf
  dsimp only
  refine wp_region_held_drew (S := fun w' => w'.cell? ⟨gx, 0, none⟩ = some (.string k)) (by kernel_rfl) ck (fun hHeld => ?_)
  clear ck
  refine wpAnyH_take (i := 0) (v := ?_) rfl (by kernel_rfl) (by kernel_rfl) (by kernel_rfl) (fun _ _ _ h => h) (Or.inl ⟨by kernel_rfl, ?_⟩) (by assumption) ?_; rotate_left; focus (intro w hSw; (try dsimp only at hSw); go_simp; try (with_reducible rfl)); (try simp only [Act.put, List.setIfInBounds_toArray, List.set_cons_zero, List.set_cons_succ])
  refine wpAnyH_take (i := 1) (v := ?_) rfl (by kernel_rfl) (by kernel_rfl) (by kernel_rfl) (fun _ _ _ h => h) (Or.inl ⟨by kernel_rfl, ?_⟩) (by assumption) ?_; rotate_left; focus (intro w hSw; (try dsimp only at hSw); go_simp; try (with_reducible rfl)); (try simp only [Act.put, List.setIfInBounds_toArray, List.set_cons_zero, List.set_cons_succ])
  refine wpAnyH_take (i := 2) (v := ?_) rfl (by kernel_rfl) (by kernel_rfl) (by kernel_rfl) (fun _ _ _ h => h) (Or.inl ⟨by kernel_rfl, ?_⟩) (by assumption) ?_; rotate_left; focus (intro w hSw; (try dsimp only at hSw); go_simp; try (with_reducible rfl)); (try simp only [Act.put, List.setIfInBounds_toArray, List.set_cons_zero, List.set_cons_succ])
  refine wpAnyH_take (i := 3) (v := ?_) rfl (by kernel_rfl) (by kernel_rfl) (by kernel_rfl) (fun _ _ _ h => h) (Or.inl ⟨by kernel_rfl, ?_⟩) (by assumption) ?_; rotate_left; focus (intro w hSw; (try dsimp only at hSw); go_simp; try (with_reducible rfl)); (try simp only [Act.put, List.setIfInBounds_toArray, List.set_cons_zero, List.set_cons_succ])
  refine wpAnyH_take (i := 4) (v := ?_) rfl (by kernel_rfl) (by kernel_rfl) (by kernel_rfl) (fun _ _ _ h => h) (Or.inl ⟨by kernel_rfl, ?_⟩) (by assumption) ?_; rotate_left; focus (intro w hSw; (try dsimp only at hSw); go_simp; try (with_reducible rfl)); (try simp only [Act.put, List.setIfInBounds_toArray, List.set_cons_zero, List.set_cons_succ])
  refine wpAnyH_take (i := 6) (v := ?_) rfl (by kernel_rfl) (by kernel_rfl) (by kernel_rfl) (fun _ _ _ h => h) (Or.inl ⟨by kernel_rfl, ?_⟩) (by assumption) ?_; rotate_left; focus (intro w hSw; (try dsimp only at hSw); go_simp; try (with_reducible rfl)); (try simp only [Act.put, List.setIfInBounds_toArray, List.set_cons_zero, List.set_cons_succ])
  refine wpAnyH_take (i := 7) (v := ?_) rfl (by kernel_rfl) (by kernel_rfl) (by kernel_rfl) (fun _ _ _ h => h) (Or.inl ⟨by kernel_rfl, ?_⟩) (by assumption) ?_; rotate_left; focus (intro w hSw; (try dsimp only at hSw); go_simp; try (with_reducible rfl)); (try simp only [Act.put, List.setIfInBounds_toArray, List.set_cons_zero, List.set_cons_succ])
  refine wpAnyH_ready (rs := [5]) (by kernel_rfl) (by simp) ?_
  refine AllReadyH.cons rfl (fun K hK => ?_) AllReadyH.nil
  go_simp
  go_at_call 53
  refine (Varint.append_any L A n c w1.heap.size w1.drew HR.out (by simp) (by omega) (k.size : Int) (by omega) (by omega)).mono ?_
  rintro e w5 ⟨A5, n5, c5, hn5, rfl, o5, k5⟩
  rw [Int.toNat_natCast] at o5 hn5
  have K5 : Keeps (fun _ => False) w1 w5 := kd.trans k5
  have O5 := hide (show Own w5 w1.heap.size 5 1 A5 n5 c5 ((L ++ enc k.size).map by8) from o5)
  have hn5' : n5 ≤ n + 10 := by have := (enc_len k.size).2; rw [hn5, List.length_append]; omega
  clear o5 k5 hn5
  try go_wp2_with fail
  refine hK.out _ _ (K5.cell_some CK.out (fun h => h)) (fun hHeld => ?_)
  clear hK K
  (try simp only [Act.put, List.setIfInBounds_toArray, List.set_cons_zero, List.set_cons_succ])
  refine wpAnyH_ready (rs := [8]) (by kernel_rfl) (by simp) ?_
  refine AllReadyH.cons rfl (fun K hK => ?_) AllReadyH.nil
  refine step_app_text w5 (by rfl) (.tmp 63) (.tmp 65) (by rfl) w1.heap.size (A := A5) (n := n5) (c := c5) (L ++ enc k.size) (by simp [Act.eval, Act.put]) O5.out k (by simp [Act.eval, Act.put]) (by omega) (by omega) K5.size ?_
  intro A7 c7 w7 o7 k7 hA7
  have K7 : Keeps (fun _ => False) w1 w7 := K5.step k7 (fun b hb h => by have := (O5.out.inB h).1; omega)
  refine hK.out _ _ (K7.cell_some CK.out (fun h => h)) (fun hHeld => ?_)
  clear hK K
  (try simp only [Act.put, List.setIfInBounds_toArray, List.set_cons_zero, List.set_cons_succ])
  refine wpAnyH_take (i := 9) (v := ?_) rfl (by kernel_rfl) (by kernel_rfl) (by kernel_rfl) (fun _ _ _ h => h) (Or.inl ⟨by kernel_rfl, ?_⟩) (by assumption) ?_; rotate_left; focus (intro w hSw; (try dsimp only at hSw); go_simp; try (with_reducible rfl)); (try simp only [Act.put, List.setIfInBounds_toArray, List.set_cons_zero, List.set_cons_succ])
  refine wpAnyH_done (by kernel_rfl) ?_ _
  refine ⟨_, _, _, ⟨o7, K7⟩, ⟨_, _, _, _, _, _, _, _, _, rfl⟩⟩
set_option maxRecDepth 1000000 in
set_option maxHeartbeats 4000000 in
theorem sreg18 (w1 : World) (L : List UInt8) (A : Option Addr) (n c gx : Nat) (lo hi : Int) (hr : Rd w1 w1.heap.size A 1 n (L.map by8)) (hn : n ≤ 10000000) (hlo : 0 ≤ lo ∧ lo < 18446744073709551616) (hhi : 0 ≤ hi ∧ hi < 18446744073709551616) (c1 : w1.cell? ⟨gx, 1, none⟩ = some (.int .u64 lo)) (c2 : w1.cell? ⟨gx, 2, none⟩ = some (.int .u64 hi)) (s0 s1 s2 s3 s4 s5 s7 s9 s10 s11 s12 s13 s14 s15 s16 s17 s18 s19 s20 s21 s22 s23 s24 s25 s26 s27 s28 s29 s30 s31 s32 s33 s34 s35 s36 s37 s38 s39 s40 s41 s42 s43 s44 s45 s46 s47 s48 s49 s50 s51 s52 s53 s54 s55 s56 s57 s58 s59 s60 s61 s62 s63 s64 s65 s66 s67 s68 s69 s70 s71 s72 s73 s74 s75 s76 s77 s78 s79 s80 s81 s82 s83 s84 s85 s86 s87 s88 s89 s90 s91 s92 s93 s94 s95 s96 s97 s98 s99 s100 s101 s102 s103 s104 : Value) :
    Code.wp Try.prog srg18 (NormPost fun a' w' => ∃ A' n' c', (n' = (L ++ enc lo.toNat ++ enc hi.toNat).length ∧ n' ≤ c' ∧ Rd w' w'.heap.size A' 1 n' ((L ++ enc lo.toNat ++ enc hi.toNat).map by8) ∧ Keeps (fun _ => False) w1 w') ∧ (∃ u67 u68 u69 u70 u71 u72 u73 : Value, a' = ⟨#[s0, s1, s2, s3, s4, s5, .slice A' n' c', s7, .pointer (some ⟨gx, 0, none⟩), s9, s10, s11, s12, s13, s14, s15, s16, s17, s18, s19, s20, s21, s22, s23, s24, s25, s26, s27, s28, s29, s30, s31, s32, s33, s34, s35, s36, s37, s38, s39, s40, s41, s42, s43, s44, s45, s46, s47, s48, s49, s50, s51, s52, s53, s54, s55, s56, s57, s58, s59, s60, s61, s62, s63, s64, s65, s66, u67, u68, u69, u70, u71, u72, u73, s74, s75, s76, s77, s78, s79, s80, s81, s82, s83, s84, s85, s86, s87, s88, s89, s90, s91, s92, s93, s94, s95, s96, s97, s98, s99, s100, s101, s102, s103, s104], []⟩)) ⟨#[s0, s1, s2, s3, s4, s5, .slice A n c, s7, .pointer (some ⟨gx, 0, none⟩), s9, s10, s11, s12, s13, s14, s15, s16, s17, s18, s19, s20, s21, s22, s23, s24, s25, s26, s27, s28, s29, s30, s31, s32, s33, s34, s35, s36, s37, s38, s39, s40, s41, s42, s43, s44, s45, s46, s47, s48, s49, s50, s51, s52, s53, s54, s55, s56, s57, s58, s59, s60, s61, s62, s63, s64, s65, s66, s67, s68, s69, s70, s71, s72, s73, s74, s75, s76, s77, s78, s79, s80, s81, s82, s83, s84, s85, s86, s87, s88, s89, s90, s91, s92, s93, s94, s95, s96, s97, s98, s99, s100, s101, s102, s103, s104], []⟩ w1 := by
  have HR := hide (show Rd w1.drew w1.heap.size A 1 n (L.map by8) from hr)
  have hln : L.length = n := by simpa using hr.1
  have C1 := hide c1
  have C2 := hide c2
  have kd : Keeps (fun _ => False) w1 w1.drew := (Keeps.refl _ _).drew
  clear hr
  conv => arg 2; whnf
  dsimp only
  refine wp_region_held_drew (S := fun w' => w'.cell? ⟨gx, 1, none⟩ = some (.int .u64 lo) ∧ w'.cell? ⟨gx, 2, none⟩ = some (.int .u64 hi)) (by kernel_rfl) ⟨c1, c2⟩ (fun hHeld => ?_)
  clear c1 c2
  refine wpAnyH_take (i := 0) (v := ?_) rfl (by kernel_rfl) (by kernel_rfl) (by kernel_rfl) (fun _ _ _ h => h) (Or.inl ⟨by kernel_rfl, ?_⟩) (by assumption) ?_; rotate_left; focus (intro w hSw; (try dsimp only at hSw); go_simp; try (with_reducible rfl)); (try simp only [Act.put, List.setIfInBounds_toArray, List.set_cons_zero, List.set_cons_succ])
  refine wpAnyH_take (i := 1) (v := ?_) rfl (by kernel_rfl) (by kernel_rfl) (by kernel_rfl) (fun _ _ _ h => h) (Or.inl ⟨by kernel_rfl, ?_⟩) (by assumption) ?_; rotate_left; focus (intro w hSw; (try dsimp only at hSw); go_simp; try (with_reducible rfl)); (try simp only [Act.put, List.setIfInBounds_toArray, List.set_cons_zero, List.set_cons_succ])
  refine wpAnyH_take (i := 2) (v := ?_) rfl (by kernel_rfl) (by kernel_rfl) (by kernel_rfl) (fun _ _ _ h => h) (Or.inl ⟨by kernel_rfl, ?_⟩) (by assumption) ?_; rotate_left; focus (intro w hSw; (try dsimp only at hSw); go_simp; try (with_reducible rfl)); (try simp only [Act.put, List.setIfInBounds_toArray, List.set_cons_zero, List.set_cons_succ])
  refine wpAnyH_take (i := 4) (v := ?_) rfl (by kernel_rfl) (by kernel_rfl) (by kernel_rfl) (fun _ _ _ h => h) (Or.inl ⟨by kernel_rfl, ?_⟩) (by assumption) ?_; rotate_left; focus (intro w hSw; (try dsimp only at hSw); go_simp; try (with_reducible rfl)); (try simp only [Act.put, List.setIfInBounds_toArray, List.set_cons_zero, List.set_cons_succ])
  refine wpAnyH_take (i := 5) (v := ?_) rfl (by kernel_rfl) (by kernel_rfl) (by kernel_rfl) (fun _ _ _ h => h) (Or.inl ⟨by kernel_rfl, ?_⟩) (by assumption) ?_; rotate_left; focus (intro w hSw; (try dsimp only at hSw); go_simp; try (with_reducible rfl)); (try simp only [Act.put, List.setIfInBounds_toArray, List.set_cons_zero, List.set_cons_succ])
  refine wpAnyH_ready (rs := [3]) (by kernel_rfl) (by simp) ?_
  refine AllReadyH.cons rfl (fun K hK => ?_) AllReadyH.nil
  go_simp
  go_at_call 53
  refine (Varint.append_any L A n c w1.heap.size w1.drew HR.out (by simp) (by omega) lo hlo.1 hlo.2).mono ?_
  rintro e w5 ⟨A5, n5, c5, hn5, rfl, o5, k5⟩
  have K5 : Keeps (fun _ => False) w1 w5 := kd.trans k5
  have R5 := hide (o5.rd (by omega))
  have hn5' : n5 ≤ n + 10 := by have := (enc_len lo.toNat).2; rw [hn5, List.length_append]; omega
  clear o5 k5 hn5
  try go_wp2_with fail
  refine hK.out _ _ ⟨K5.cell_some C1.out (fun h => h), K5.cell_some C2.out (fun h => h)⟩ (fun hHeld => ?_)
  clear hK K
  (try simp only [Act.put, List.setIfInBounds_toArray, List.set_cons_zero, List.set_cons_succ])
  refine wpAnyH_ready (rs := [6]) (by kernel_rfl) (by simp) ?_
  refine AllReadyH.cons rfl (fun K hK => ?_) AllReadyH.nil
  go_simp
  go_at_call 53
  refine (Varint.append_any (L ++ enc lo.toNat) A5 n5 c5 _ w5 R5.out (Nat.le_refl _) (by omega) hi hhi.1 hhi.2).mono ?_
  rintro e w7 ⟨A7, n7, c7, hn7, rfl, o7, k7⟩
  have K7 : Keeps (fun _ => False) w1 w7 := K5.trans k7
  have R7 := hide (o7.rd (by omega))
  have HN7 := hide hn7
  have HC7 := hide o7.le
  clear o7 k7 hn7
  try go_wp2_with fail
  refine hK.out _ _ ⟨K7.cell_some C1.out (fun h => h), K7.cell_some C2.out (fun h => h)⟩ (fun hHeld => ?_)
  clear hK K
  (try simp only [Act.put, List.setIfInBounds_toArray, List.set_cons_zero, List.set_cons_succ])
  refine wpAnyH_take (i := 7) (v := ?_) rfl (by kernel_rfl) (by kernel_rfl) (by kernel_rfl) (fun _ _ _ h => h) (Or.inl ⟨by kernel_rfl, ?_⟩) (by assumption) ?_; rotate_left; focus (intro w hSw; (try dsimp only at hSw); go_simp; try (with_reducible rfl)); (try simp only [Act.put, List.setIfInBounds_toArray, List.set_cons_zero, List.set_cons_succ])
  refine wpAnyH_done (by kernel_rfl) ?_ _
  refine ⟨_, _, _, ⟨HN7.out, HC7.out, R7.out, K7⟩, ⟨_, _, _, _, _, _, _, rfl⟩⟩
noncomputable def rrg17 : Code := ((Try.f27.body.bind (findReg 17)).getD .skip)
noncomputable def rrg18 : Code := ((Try.f27.body.bind (findReg 18)).getD .skip)
set_option maxRecDepth 1000000 in
set_option maxHeartbeats 4000000 in
theorem rreg17 (w1 : World) (L : List UInt8) (A : Option Addr) (n c gx : Nat) (k : ByteArray) (hr : Rd w1 w1.heap.size A 1 n (L.map by8)) (hn : n ≤ 10000000) (hk : k.size ≤ 255) (ck : w1.cell? ⟨gx, 0, none⟩ = some (.string k)) (hgx : gx < w1.heap.size) (s0 s1 s2 s3 s4 s5 s7 s9 s10 s11 s12 s13 s14 s15 s16 s17 s18 s19 s20 s21 s22 s23 s24 s25 s26 s27 s28 s29 s30 s31 s32 s33 s34 s35 s36 s37 s38 s39 s40 s41 s42 s43 s44 s45 s46 s47 s48 s49 s50 s51 s52 s53 s54 s55 s56 s57 s58 s59 s60 s61 s62 s63 s64 s65 s66 s67 s68 s69 s70 s71 s72 s73 s74 s75 s76 s77 s78 s79 s80 s81 s82 s83 s84 s85 s86 s87 s88 s89 s90 s91 s92 s93 s94 s95 s96 s97 s98 s99 s100 s101 s102 s103 s104 : Value) :
    Code.wp Try.prog rrg17 (NormPost fun a' w' => ∃ A' n' c', (Own w' w1.heap.size 5 1 A' n' c' ((L ++ enc k.size ++ k.data.toList).map by8) ∧ Keeps (fun _ => False) w1 w') ∧ (∃ u58 u59 u60 u61 u62 u63 u64 u65 u66 : Value, a' = ⟨#[s0, s1, s2, s3, s4, s5, .slice A' n' c', s7, .pointer (some ⟨gx, 0, none⟩), s9, s10, s11, s12, s13, s14, s15, s16, s17, s18, s19, s20, s21, s22, s23, s24, s25, s26, s27, s28, s29, s30, s31, s32, s33, s34, s35, s36, s37, s38, s39, s40, s41, s42, s43, s44, s45, s46, s47, s48, s49, s50, s51, s52, s53, s54, s55, s56, s57, u58, u59, u60, u61, u62, u63, u64, u65, u66, s67, s68, s69, s70, s71, s72, s73, s74, s75, s76, s77, s78, s79, s80, s81, s82, s83, s84, s85, s86, s87, s88, s89, s90, s91, s92, s93, s94, s95, s96, s97, s98, s99, s100, s101, s102, s103, s104], []⟩)) ⟨#[s0, s1, s2, s3, s4, s5, .slice A n c, s7, .pointer (some ⟨gx, 0, none⟩), s9, s10, s11, s12, s13, s14, s15, s16, s17, s18, s19, s20, s21, s22, s23, s24, s25, s26, s27, s28, s29, s30, s31, s32, s33, s34, s35, s36, s37, s38, s39, s40, s41, s42, s43, s44, s45, s46, s47, s48, s49, s50, s51, s52, s53, s54, s55, s56, s57, s58, s59, s60, s61, s62, s63, s64, s65, s66, s67, s68, s69, s70, s71, s72, s73, s74, s75, s76, s77, s78, s79, s80, s81, s82, s83, s84, s85, s86, s87, s88, s89, s90, s91, s92, s93, s94, s95, s96, s97, s98, s99, s100, s101, s102, s103, s104], []⟩ w1 := by
  have HR := hide (show Rd w1.drew w1.heap.size A 1 n (L.map by8) from hr)
  have hln : L.length = n := by simpa using hr.1
  have CK := hide ck
  have kd : Keeps (fun _ => False) w1 w1.drew := (Keeps.refl _ _).drew
  have ew : IntKind.u64.wrap (k.size : Int) = k.size := by rw [IntKind.wrap_u64]; omega
  clear hr
  conv => arg 2; whnf
  dsimp only
  refine wp_region_held_drew (S := fun w' => w'.cell? ⟨gx, 0, none⟩ = some (.string k)) (by kernel_rfl) ck (fun hHeld => ?_)
  clear ck
  refine wpAnyH_take (i := 0) (v := ?_) rfl (by kernel_rfl) (by kernel_rfl) (by kernel_rfl) (fun _ _ _ h => h) (Or.inl ⟨by kernel_rfl, ?_⟩) (by assumption) ?_; rotate_left; focus (intro w hSw; (try dsimp only at hSw); go_simp; try (with_reducible rfl)); (try simp only [Act.put, List.setIfInBounds_toArray, List.set_cons_zero, List.set_cons_succ])
  refine wpAnyH_take (i := 1) (v := ?_) rfl (by kernel_rfl) (by kernel_rfl) (by kernel_rfl) (fun _ _ _ h => h) (Or.inl ⟨by kernel_rfl, ?_⟩) (by assumption) ?_; rotate_left; focus (intro w hSw; (try dsimp only at hSw); go_simp; try (with_reducible rfl)); (try simp only [Act.put, List.setIfInBounds_toArray, List.set_cons_zero, List.set_cons_succ])
  refine wpAnyH_take (i := 2) (v := ?_) rfl (by kernel_rfl) (by kernel_rfl) (by kernel_rfl) (fun _ _ _ h => h) (Or.inl ⟨by kernel_rfl, ?_⟩) (by assumption) ?_; rotate_left; focus (intro w hSw; (try dsimp only at hSw); go_simp; try (with_reducible rfl)); (try simp only [Act.put, List.setIfInBounds_toArray, List.set_cons_zero, List.set_cons_succ])
  refine wpAnyH_take (i := 3) (v := ?_) rfl (by kernel_rfl) (by kernel_rfl) (by kernel_rfl) (fun _ _ _ h => h) (Or.inl ⟨by kernel_rfl, ?_⟩) (by assumption) ?_; rotate_left; focus (intro w hSw; (try dsimp only at hSw); go_simp; try (with_reducible rfl)); (try simp only [Act.put, List.setIfInBounds_toArray, List.set_cons_zero, List.set_cons_succ])
  refine wpAnyH_take (i := 4) (v := ?_) rfl (by kernel_rfl) (by kernel_rfl) (by kernel_rfl) (fun _ _ _ h => h) (Or.inl ⟨by kernel_rfl, ?_⟩) (by assumption) ?_; rotate_left; focus (intro w hSw; (try dsimp only at hSw); go_simp; try (with_reducible rfl)); (try simp only [Act.put, List.setIfInBounds_toArray, List.set_cons_zero, List.set_cons_succ])
  refine wpAnyH_take (i := 6) (v := ?_) rfl (by kernel_rfl) (by kernel_rfl) (by kernel_rfl) (fun _ _ _ h => h) (Or.inl ⟨by kernel_rfl, ?_⟩) (by assumption) ?_; rotate_left; focus (intro w hSw; (try dsimp only at hSw); go_simp; try (with_reducible rfl)); (try simp only [Act.put, List.setIfInBounds_toArray, List.set_cons_zero, List.set_cons_succ])
  refine wpAnyH_take (i := 7) (v := ?_) rfl (by kernel_rfl) (by kernel_rfl) (by kernel_rfl) (fun _ _ _ h => h) (Or.inl ⟨by kernel_rfl, ?_⟩) (by assumption) ?_; rotate_left; focus (intro w hSw; (try dsimp only at hSw); go_simp; try (with_reducible rfl)); (try simp only [Act.put, List.setIfInBounds_toArray, List.set_cons_zero, List.set_cons_succ])
  refine wpAnyH_ready (rs := [5]) (by kernel_rfl) (by simp) ?_
  refine AllReadyH.cons rfl (fun K hK => ?_) AllReadyH.nil
  go_simp
  go_at_call 54
  refine (Varint.rappend_any L A n c w1.heap.size w1.drew HR.out (by simp) (by omega) (k.size : Int) (by omega) (by omega)).mono ?_
  rintro e w5 ⟨A5, n5, c5, hn5, rfl, o5, k5⟩
  rw [Int.toNat_natCast] at o5 hn5
  have K5 : Keeps (fun _ => False) w1 w5 := kd.trans k5
  have O5 := hide (show Own w5 w1.heap.size 5 1 A5 n5 c5 ((L ++ enc k.size).map by8) from o5)
  have hn5' : n5 ≤ n + 10 := by have := (enc_len k.size).2; rw [hn5, List.length_append]; omega
  clear o5 k5 hn5
  try go_wp2_with fail
  refine hK.out _ _ (K5.cell_some CK.out (fun h => h)) (fun hHeld => ?_)
  clear hK K
  (try simp only [Act.put, List.setIfInBounds_toArray, List.set_cons_zero, List.set_cons_succ])
  refine wpAnyH_ready (rs := [8]) (by kernel_rfl) (by simp) ?_
  refine AllReadyH.cons rfl (fun K hK => ?_) AllReadyH.nil
  refine step_app_text w5 (by rfl) (.tmp 63) (.tmp 65) (by rfl) w1.heap.size (A := A5) (n := n5) (c := c5) (L ++ enc k.size) (by simp [Act.eval, Act.put]) O5.out k (by simp [Act.eval, Act.put]) (by omega) (by omega) K5.size ?_
  intro A7 c7 w7 o7 k7 hA7
  have K7 : Keeps (fun _ => False) w1 w7 := K5.step k7 (fun b hb h => by have := (O5.out.inB h).1; omega)
  refine hK.out _ _ (K7.cell_some CK.out (fun h => h)) (fun hHeld => ?_)
  clear hK K
  (try simp only [Act.put, List.setIfInBounds_toArray, List.set_cons_zero, List.set_cons_succ])
  refine wpAnyH_take (i := 9) (v := ?_) rfl (by kernel_rfl) (by kernel_rfl) (by kernel_rfl) (fun _ _ _ h => h) (Or.inl ⟨by kernel_rfl, ?_⟩) (by assumption) ?_; rotate_left; focus (intro w hSw; (try dsimp only at hSw); go_simp; try (with_reducible rfl)); (try simp only [Act.put, List.setIfInBounds_toArray, List.set_cons_zero, List.set_cons_succ])
  refine wpAnyH_done (by kernel_rfl) ?_ _
  refine ⟨_, _, _, ⟨o7, K7⟩, ⟨_, _, _, _, _, _, _, _, _, rfl⟩⟩
set_option maxRecDepth 1000000 in
set_option maxHeartbeats 4000000 in
theorem rreg18 (w1 : World) (L : List UInt8) (A : Option Addr) (n c gx : Nat) (lo hi : Int) (hr : Rd w1 w1.heap.size A 1 n (L.map by8)) (hn : n ≤ 10000000) (hlo : 0 ≤ lo ∧ lo < 18446744073709551616) (hhi : 0 ≤ hi ∧ hi < 18446744073709551616) (c1 : w1.cell? ⟨gx, 1, none⟩ = some (.int .u64 lo)) (c2 : w1.cell? ⟨gx, 2, none⟩ = some (.int .u64 hi)) (s0 s1 s2 s3 s4 s5 s7 s9 s10 s11 s12 s13 s14 s15 s16 s17 s18 s19 s20 s21 s22 s23 s24 s25 s26 s27 s28 s29 s30 s31 s32 s33 s34 s35 s36 s37 s38 s39 s40 s41 s42 s43 s44 s45 s46 s47 s48 s49 s50 s51 s52 s53 s54 s55 s56 s57 s58 s59 s60 s61 s62 s63 s64 s65 s66 s67 s68 s69 s70 s71 s72 s73 s74 s75 s76 s77 s78 s79 s80 s81 s82 s83 s84 s85 s86 s87 s88 s89 s90 s91 s92 s93 s94 s95 s96 s97 s98 s99 s100 s101 s102 s103 s104 : Value) :
    Code.wp Try.prog rrg18 (NormPost fun a' w' => ∃ A' n' c', (n' = (L ++ enc lo.toNat ++ enc hi.toNat).length ∧ n' ≤ c' ∧ Rd w' w'.heap.size A' 1 n' ((L ++ enc lo.toNat ++ enc hi.toNat).map by8) ∧ Keeps (fun _ => False) w1 w') ∧ (∃ u67 u68 u69 u70 u71 u72 u73 : Value, a' = ⟨#[s0, s1, s2, s3, s4, s5, .slice A' n' c', s7, .pointer (some ⟨gx, 0, none⟩), s9, s10, s11, s12, s13, s14, s15, s16, s17, s18, s19, s20, s21, s22, s23, s24, s25, s26, s27, s28, s29, s30, s31, s32, s33, s34, s35, s36, s37, s38, s39, s40, s41, s42, s43, s44, s45, s46, s47, s48, s49, s50, s51, s52, s53, s54, s55, s56, s57, s58, s59, s60, s61, s62, s63, s64, s65, s66, u67, u68, u69, u70, u71, u72, u73, s74, s75, s76, s77, s78, s79, s80, s81, s82, s83, s84, s85, s86, s87, s88, s89, s90, s91, s92, s93, s94, s95, s96, s97, s98, s99, s100, s101, s102, s103, s104], []⟩)) ⟨#[s0, s1, s2, s3, s4, s5, .slice A n c, s7, .pointer (some ⟨gx, 0, none⟩), s9, s10, s11, s12, s13, s14, s15, s16, s17, s18, s19, s20, s21, s22, s23, s24, s25, s26, s27, s28, s29, s30, s31, s32, s33, s34, s35, s36, s37, s38, s39, s40, s41, s42, s43, s44, s45, s46, s47, s48, s49, s50, s51, s52, s53, s54, s55, s56, s57, s58, s59, s60, s61, s62, s63, s64, s65, s66, s67, s68, s69, s70, s71, s72, s73, s74, s75, s76, s77, s78, s79, s80, s81, s82, s83, s84, s85, s86, s87, s88, s89, s90, s91, s92, s93, s94, s95, s96, s97, s98, s99, s100, s101, s102, s103, s104], []⟩ w1 := by
  have HR := hide (show Rd w1.drew w1.heap.size A 1 n (L.map by8) from hr)
  have hln : L.length = n := by simpa using hr.1
  have C1 := hide c1
  have C2 := hide c2
  have kd : Keeps (fun _ => False) w1 w1.drew := (Keeps.refl _ _).drew
  clear hr
  conv => arg 2; whnf
  dsimp only
  refine wp_region_held_drew (S := fun w' => w'.cell? ⟨gx, 1, none⟩ = some (.int .u64 lo) ∧ w'.cell? ⟨gx, 2, none⟩ = some (.int .u64 hi)) (by kernel_rfl) ⟨c1, c2⟩ (fun hHeld => ?_)
  clear c1 c2
  refine wpAnyH_take (i := 0) (v := ?_) rfl (by kernel_rfl) (by kernel_rfl) (by kernel_rfl) (fun _ _ _ h => h) (Or.inl ⟨by kernel_rfl, ?_⟩) (by assumption) ?_; rotate_left; focus (intro w hSw; (try dsimp only at hSw); go_simp; try (with_reducible rfl)); (try simp only [Act.put, List.setIfInBounds_toArray, List.set_cons_zero, List.set_cons_succ])
  refine wpAnyH_take (i := 1) (v := ?_) rfl (by kernel_rfl) (by kernel_rfl) (by kernel_rfl) (fun _ _ _ h => h) (Or.inl ⟨by kernel_rfl, ?_⟩) (by assumption) ?_; rotate_left; focus (intro w hSw; (try dsimp only at hSw); go_simp; try (with_reducible rfl)); (try simp only [Act.put, List.setIfInBounds_toArray, List.set_cons_zero, List.set_cons_succ])
  refine wpAnyH_take (i := 2) (v := ?_) rfl (by kernel_rfl) (by kernel_rfl) (by kernel_rfl) (fun _ _ _ h => h) (Or.inl ⟨by kernel_rfl, ?_⟩) (by assumption) ?_; rotate_left; focus (intro w hSw; (try dsimp only at hSw); go_simp; try (with_reducible rfl)); (try simp only [Act.put, List.setIfInBounds_toArray, List.set_cons_zero, List.set_cons_succ])
  refine wpAnyH_take (i := 4) (v := ?_) rfl (by kernel_rfl) (by kernel_rfl) (by kernel_rfl) (fun _ _ _ h => h) (Or.inl ⟨by kernel_rfl, ?_⟩) (by assumption) ?_; rotate_left; focus (intro w hSw; (try dsimp only at hSw); go_simp; try (with_reducible rfl)); (try simp only [Act.put, List.setIfInBounds_toArray, List.set_cons_zero, List.set_cons_succ])
  refine wpAnyH_take (i := 5) (v := ?_) rfl (by kernel_rfl) (by kernel_rfl) (by kernel_rfl) (fun _ _ _ h => h) (Or.inl ⟨by kernel_rfl, ?_⟩) (by assumption) ?_; rotate_left; focus (intro w hSw; (try dsimp only at hSw); go_simp; try (with_reducible rfl)); (try simp only [Act.put, List.setIfInBounds_toArray, List.set_cons_zero, List.set_cons_succ])
  refine wpAnyH_ready (rs := [3]) (by kernel_rfl) (by simp) ?_
  refine AllReadyH.cons rfl (fun K hK => ?_) AllReadyH.nil
  go_simp
  go_at_call 54
  refine (Varint.rappend_any L A n c w1.heap.size w1.drew HR.out (by simp) (by omega) lo hlo.1 hlo.2).mono ?_
  rintro e w5 ⟨A5, n5, c5, hn5, rfl, o5, k5⟩
  have K5 : Keeps (fun _ => False) w1 w5 := kd.trans k5
  have R5 := hide (o5.rd (by omega))
  have hn5' : n5 ≤ n + 10 := by have := (enc_len lo.toNat).2; rw [hn5, List.length_append]; omega
  clear o5 k5 hn5
  try go_wp2_with fail
  refine hK.out _ _ ⟨K5.cell_some C1.out (fun h => h), K5.cell_some C2.out (fun h => h)⟩ (fun hHeld => ?_)
  clear hK K
  (try simp only [Act.put, List.setIfInBounds_toArray, List.set_cons_zero, List.set_cons_succ])
  refine wpAnyH_ready (rs := [6]) (by kernel_rfl) (by simp) ?_
  refine AllReadyH.cons rfl (fun K hK => ?_) AllReadyH.nil
  go_simp
  go_at_call 54
  refine (Varint.rappend_any (L ++ enc lo.toNat) A5 n5 c5 _ w5 R5.out (Nat.le_refl _) (by omega) hi hhi.1 hhi.2).mono ?_
  rintro e w7 ⟨A7, n7, c7, hn7, rfl, o7, k7⟩
  have K7 : Keeps (fun _ => False) w1 w7 := K5.trans k7
  have R7 := hide (o7.rd (by omega))
  have HN7 := hide hn7
  have HC7 := hide o7.le
  clear o7 k7 hn7
  try go_wp2_with fail
  refine hK.out _ _ ⟨K7.cell_some C1.out (fun h => h), K7.cell_some C2.out (fun h => h)⟩ (fun hHeld => ?_)
  clear hK K
  (try simp only [Act.put, List.setIfInBounds_toArray, List.set_cons_zero, List.set_cons_succ])
  refine wpAnyH_take (i := 7) (v := ?_) rfl (by kernel_rfl) (by kernel_rfl) (by kernel_rfl) (fun _ _ _ h => h) (Or.inl ⟨by kernel_rfl, ?_⟩) (by assumption) ?_; rotate_left; focus (intro w hSw; (try dsimp only at hSw); go_simp; try (with_reducible rfl)); (try simp only [Act.put, List.setIfInBounds_toArray, List.set_cons_zero, List.set_cons_succ])
  refine wpAnyH_done (by kernel_rfl) ?_ _
  refine ⟨_, _, _, ⟨HN7.out, HC7.out, R7.out, K7⟩, ⟨_, _, _, _, _, _, _, rfl⟩⟩
end enc21
end Go.Proofs.Ytaiopdipldaimaa

set_option linter.unusedVariables false
set_option linter.unusedSimpArgs false
namespace Go.Proofs.Ytaiopdipldaimaa
open Go.RowKit Vp
namespace enc21
def loops : Code → List Code
  | .loop c => c :: loops c
  | .seq a b => loops a ++ loops b
  | .block _ c => loops c
  | .scope c => loops c
  | .cond _ a b => loops a ++ loops b
  | _ => []
def LoopPostR (k : Nat) (W V : Act → World → Prop) : Exit → Act → World → Prop
  | .exit i, a, w => i = k ∧ W a w
  | .ret, a, w => V a w
  | _, _, _ => False
/-- the bytes of an entry, of a row -/
def encEnt (x : Ln) : List UInt8 := enc x.key.size ++ x.key.data.toList ++ enc x.lo.toNat ++ enc x.hi.toNat
def encNum (r : List Int) : List UInt8 := r.flatMap fun z => enc z.toNat
def encRow (r : List Int) : List UInt8 := enc r.length ++ encNum r
/-- a slice of bytes reads as L -/
def BSt (w0 : World) (L : List UInt8) (v : Value) (wr : World) : Prop := ∃ A n c, v = .slice A n c ∧ n = L.length ∧ n ≤ c ∧ Rd wr wr.heap.size A 1 n (L.map by8) ∧ Keeps (fun _ => False) w0 wr
theorem take_flat {α : Type} {f : α → List UInt8} {l : List α} {i : Nat} {x : α} (h : l[i]? = some x) : (l.take (i + 1)).flatMap f = (l.take i).flatMap f ++ f x := by
  rw [List.take_add_one, h, List.flatMap_append]; simp
noncomputable def slp1 : Code := ((Try.f26.body.bind fun c => (loops c)[1]?).getD .skip)
set_option maxRecDepth 1000000 in
set_option maxHeartbeats 4000000 in
theorem sloopE (w0 : World) (B : Nat) (AE : Option Addr) (n cE : Nat) (l : List Ln) (hl : Rd w0 B AE 3 n (lnCs l)) (hB : B ≤ w0.heap.size) (hU : ∀ x ∈ l, U x.lo ∧ U x.hi) (hn : n ≤ 96) (L0 : List UInt8) (v0 : Value) (h0 : BSt w0 L0 v0 w0) (hL : L0.length ≤ 1000) (s0 s1 s2 s3 s4 s5 s7 s8 s9 s10 s11 s12 s13 s14 s15 s16 s17 s18 s19 s20 s21 s22 s23 s24 s25 s26 s27 s28 s29 s30 s31 s32 s33 s34 s35 s36 s37 s38 s39 s40 s41 s42 s43 s44 s45 s46 s47 s51 s52 s53 s54 s55 s56 s57 s58 s59 s60 s61 s62 s63 s64 s65 s66 s67 s68 s69 s70 s71 s72 s73 s74 s75 s76 s77 s78 s79 s80 s81 s82 s83 s84 s85 s86 s87 s88 s89 s90 s91 s92 s93 s94 s95 s96 s97 s98 s99 s100 s101 s102 s103 s104 : Value) :
    Code.wp Try.prog (Code.loop slp1) (LoopPostR 2 (fun a' w' => (∀ x ∈ l, x.key.size ≤ 255) ∧ (L0 ++ l.flatMap encEnt).length ≤ 1000 + 290 * n ∧ (∃ v, BSt w0 (L0 ++ l.flatMap encEnt) v w' ∧ (∃ u2 u3 u8 u50 u51 u52 u53 u54 u55 u56 u57 u58 u59 u60 u61 u62 u63 u64 u65 u66 u67 u68 u69 u70 u71 u72 u73 u74 : Value, a' = ⟨#[s0, s1, u2, u3, s4, s5, v, s7, u8, s9, s10, s11, s12, s13, s14, s15, s16, s17, s18, s19, s20, s21, s22, s23, s24, s25, s26, s27, s28, s29, s30, s31, s32, s33, s34, s35, s36, s37, s38, s39, s40, s41, s42, s43, s44, s45, s46, s47, .slice AE n cE, .int .i64 (n : Int), u50, u51, u52, u53, u54, u55, u56, u57, u58, u59, u60, u61, u62, u63, u64, u65, u66, u67, u68, u69, u70, u71, u72, u73, u74, s75, s76, s77, s78, s79, s80, s81, s82, s83, s84, s85, s86, s87, s88, s89, s90, s91, s92, s93, s94, s95, s96, s97, s98, s99, s100, s101, s102, s103, s104], []⟩))) (fun a' w' => (∃ x ∈ l, 255 < x.key.size) ∧ Keeps (fun _ => False) w0 w' ∧ (∃ u6 u8 u50 u51 u52 u53 u54 u55 u56 u57 u58 u59 u60 u61 u62 u63 u64 u65 u66 u67 u68 u69 u70 u71 u72 u73 u74 : Value, a' = ⟨#[s0, s1, .slice none 0 0, .int .i64 4, s4, s5, u6, s7, u8, s9, s10, s11, s12, s13, s14, s15, s16, s17, s18, s19, s20, s21, s22, s23, s24, s25, s26, s27, s28, s29, s30, s31, s32, s33, s34, s35, s36, s37, s38, s39, s40, s41, s42, s43, s44, s45, s46, s47, .slice AE n cE, .int .i64 (n : Int), u50, u51, u52, u53, u54, u55, u56, u57, u58, u59, u60, u61, u62, u63, u64, u65, u66, u67, u68, u69, u70, u71, u72, u73, u74, s75, s76, s77, s78, s79, s80, s81, s82, s83, s84, s85, s86, s87, s88, s89, s90, s91, s92, s93, s94, s95, s96, s97, s98, s99, s100, s101, s102, s103, s104], []⟩))) ⟨#[s0, s1, s2, s3, s4, s5, v0, s7, s8, s9, s10, s11, s12, s13, s14, s15, s16, s17, s18, s19, s20, s21, s22, s23, s24, s25, s26, s27, s28, s29, s30, s31, s32, s33, s34, s35, s36, s37, s38, s39, s40, s41, s42, s43, s44, s45, s46, s47, .slice AE n cE, .int .i64 (n : Int), .int .i64 0, s51, s52, s53, s54, s55, s56, s57, s58, s59, s60, s61, s62, s63, s64, s65, s66, s67, s68, s69, s70, s71, s72, s73, s74, s75, s76, s77, s78, s79, s80, s81, s82, s83, s84, s85, s86, s87, s88, s89, s90, s91, s92, s93, s94, s95, s96, s97, s98, s99, s100, s101, s102, s103, s104], []⟩ w0 := by
  have HL := hide hl
  have hln := lnRd_len hl
  have HU := hide hU
  have HLN := hide hln
  have H0 := hide h0
  clear hl hU h0 hln
  conv => arg 2; arg 1; whnf
  dsimp only
  go_loopw [6, 50] (fun bv iv wr => ∃ i : Nat, i ≤ n ∧ iv = .int .i64 i ∧ Hid ((∀ x ∈ l.take i, x.key.size ≤ 255) ∧ (L0 ++ (l.take i).flatMap encEnt).length ≤ 1000 + 290 * i ∧ BSt w0 (L0 ++ (l.take i).flatMap encEnt) bv wr)) (fun _ iv _ => n - (intOf iv).toNat)
  case atStart => exact ⟨0, by omega, rfl, hide ⟨fun x hx => by simp at hx, by simpa using hL, by simpa using H0.out⟩⟩
  case round =>
    obtain ⟨i, hi, rfl, HS⟩ := hrel
    by_cases hlt : i < n
    · have HLT : Hid (i + 1 ≤ n) := hlt
      obtain ⟨x, hx⟩ : ∃ x, l[i]? = some x := ⟨l[i]'(by rw [HLN.out]; exact hlt), by simp⟩
      obtain ⟨hs1, hs2, A, nb, cb, rfl, hnb, hcb, hrb, kr⟩ := HS.out
      obtain ⟨b, off, rfl, hbB, c0, c1, c2⟩ := lnRd_at (HL.out.kept kr (fun _ _ h => h)) hx (by omega)
      have hbr : b < wr.heap.size := by have := kr.size; omega
      have hiI : (i : Int) < (n : Int) := by omega
      have hi0 : (0 : Int) ≤ (i : Int) := by omega
      have kA := (Keeps.refl (fun _ => False) wr).alloc (.cells #[.string x.key, .int .u64 x.lo, .int .u64 x.hi] 99)
      have BA := hide (Blk.new wr 99 #[.string x.key, .int .u64 x.lo, .int .u64 x.hi])
      have RA := hide ((hrb.kept kA (fun _ _ h => h)).more kA.size)
      have KA := hide (kr.trans kA)
      have HX := hide hx
      obtain ⟨L1, hL1⟩ : ∃ L1, L1 = L0 ++ (l.take i).flatMap encEnt := ⟨_, rfl⟩
      have HTF : Hid (L0 ++ (l.take (i + 1)).flatMap encEnt = L1 ++ encEnt x) := hide (by rw [take_flat hx, ← List.append_assoc, ← hL1])
      rw [← hL1] at hs2 hnb RA
      have HS1 := hide hs1
      clear hcb hs1 hrb kr kA hx HS hL1
      by_cases hk : 255 < x.key.size
      · have e1 : (255 : Int) < (x.key.size : Int) := by omega
        go_wp2_with fail
        trace "LONG"
        refine ⟨⟨x, List.mem_of_getElem? HX.out, hk⟩, KA.out, ⟨_, _, _, _, _, _, _, _, _, _, _, _, _, _, _, _, _, _, _, _, _, _, _, _, _, _, _, rfl⟩⟩
      have hks : x.key.size ≤ 255 := by omega
      have e1 : ¬ ((255 : Int) < (x.key.size : Int)) := by omega
      clear hk
      go_upto_region 17 with fail
      trace "R17"
      generalize wr.alloc _ = w3 at *
      generalize wr.heap.size = gx at *
      have q0 : w3.cell? ⟨gx, 0, none⟩ = some (.string x.key) := BA.out.cell 0
      have hnb2 : nb ≤ 10000000 := by omega
      refine Code.wp_mono ?_ (sreg17 w3 L1 A nb cb gx x.key RA.out hnb2 hks q0 BA.out.lt _ _ _ _ _ _ _ _ _ _ _ _ _ _ _ _ _ _ _ _ _ _ _ _ _ _ _ _ _ _ _ _ _ _ _ _ _ _ _ _ _ _ _ _ _ _ _ _ _ _ _ _ _ _ _ _ _ _ _ _ _ _ _ _ _ _ _ _ _ _ _ _ _ _ _ _ _ _ _ _ _ _ _ _ _ _ _ _ _ _ _ _ _ _ _ _ _ _ _ _ _ _ _)
      intro e a' w4 hex
      cases e <;> (first | exact hex.elim | skip)
      obtain ⟨A4, n4, c4, ⟨o4, k4⟩, ⟨v58, v59, v60, v61, v62, v63, v64, v65, v66, rfl⟩⟩ := hex
      have hn4 : n4 ≤ 10000000 := by have := o4.len; simp at this; have := (enc_len x.key.size).2; omega
      have BA4 := hide (BA.out.kept k4 (fun h => h))
      have R4 := hide (o4.rd (by omega))
      have K4 := hide (KA.out.trans k4)
      have q1 : w4.cell? ⟨gx, 1, none⟩ = some (.int .u64 x.lo) := BA4.out.cell 1
      have q2 : w4.cell? ⟨gx, 2, none⟩ = some (.int .u64 x.hi) := BA4.out.cell 2
      clear o4 k4 BA KA RA q0
      dsimp only
      go_upto_region 18 with fail
      trace "R18"
      refine Code.wp_mono ?_ (sreg18 w4 (L1 ++ enc x.key.size ++ x.key.data.toList) A4 n4 c4 gx x.lo x.hi R4.out hn4 (HU.out x (List.mem_of_getElem? HX.out)).1 (HU.out x (List.mem_of_getElem? HX.out)).2 q1 q2 _ _ _ _ _ _ _ _ _ _ _ _ _ _ _ _ _ _ _ _ _ _ _ _ _ _ _ _ _ _ _ _ _ _ _ _ _ _ _ _ _ _ _ _ _ _ _ _ _ _ _ _ _ _ _ _ _ _ _ _ _ _ _ _ _ _ _ _ _ _ _ _ _ _ _ _ _ _ _ _ _ _ _ _ _ _ _ _ _ _ _ _ _ _ _ _ _ _ _ _ _ _ _)
      intro e a' w5 hex
      cases e <;> (first | exact hex.elim | skip)
      obtain ⟨A5, n5, c5, ⟨hn5, hc5, r5, k5⟩, ⟨y67, y68, y69, y70, y71, y72, y73, rfl⟩⟩ := hex
      have HN : Hid ((∀ x ∈ l.take (i + 1), x.key.size ≤ 255) ∧ (L0 ++ (l.take (i + 1)).flatMap encEnt).length ≤ 1000 + 290 * (i + 1) ∧ BSt w0 (L0 ++ (l.take (i + 1)).flatMap encEnt) (.slice A5 n5 c5) w5) := hide (by
        have he : L1 ++ enc x.key.size ++ x.key.data.toList ++ enc x.lo.toNat ++ enc x.hi.toNat = L0 ++ (l.take (i + 1)).flatMap encEnt := by rw [HTF.out]; simp [encEnt, List.append_assoc]
        rw [← he]
        refine ⟨fun y hy => ?_, ?_, A5, n5, c5, rfl, hn5, hc5, r5, K4.out.trans k5⟩
        · rw [List.take_add_one, HX.out] at hy
          rcases List.mem_append.1 hy with h | h
          · exact HS1.out y h
          · obtain rfl : y = x := by simpa using h
            exact hks
        · have a1 := (enc_len x.key.size).2
          have a2 := (enc_len x.lo.toNat).2
          have a3 := (enc_len x.hi.toNat).2
          have a4 : x.key.data.toList.length = x.key.size := by simp
          simp only [List.length_append]
          omega)
      clear hn5 hc5 r5 k5 K4 R4 BA4 q1 q2 HS1 HTF
      dsimp only
      go_wp2_with fail
      trace "ROUND"
      go_roundw
      case rel => exact ⟨i + 1, HLT.out, by go_num, HN⟩
      case measure => have := HLT.out; simp [intOf]; omega
    · obtain rfl : i = n := by omega
      have hT : l.take i = l := List.take_of_length_le (by rw [HLN.out]; exact Nat.le_refl _)
      rw [hT] at HS
      obtain ⟨hs1, hs2, hs3⟩ := HS.out
      go_wp2_with fail
      trace "END"
      first | exact ⟨rfl, hs1, hs2, _, hs3, _, _, _, _, _, _, _, _, _, _, _, _, _, _, _, _, _, _, _, _, _, _, _, _, _, _, _, _, rfl⟩ | exact ⟨rfl, hs1, hs2, hs3, _, _, _, _, _, _, _, _, _, _, _, _, _, _, _, _, _, _, _, _, _, _, _, _, _, _, _, _, rfl⟩ | (trace_state; fail)
noncomputable def rlp1 : Code := ((Try.f27.body.bind fun c => (loops c)[1]?).getD .skip)
set_option maxRecDepth 1000000 in
set_option maxHeartbeats 4000000 in
theorem rloopE (w0 : World) (B : Nat) (AE : Option Addr) (n cE : Nat) (l : List Ln) (hl : Rd w0 B AE 3 n (lnCs l)) (hB : B ≤ w0.heap.size) (hU : ∀ x ∈ l, U x.lo ∧ U x.hi) (hn : n ≤ 96) (L0 : List UInt8) (v0 : Value) (h0 : BSt w0 L0 v0 w0) (hL : L0.length ≤ 1000) (s0 s1 s2 s3 s4 s5 s7 s8 s9 s10 s11 s12 s13 s14 s15 s16 s17 s18 s19 s20 s21 s22 s23 s24 s25 s26 s27 s28 s29 s30 s31 s32 s33 s34 s35 s36 s37 s38 s39 s40 s41 s42 s43 s44 s45 s46 s47 s51 s52 s53 s54 s55 s56 s57 s58 s59 s60 s61 s62 s63 s64 s65 s66 s67 s68 s69 s70 s71 s72 s73 s74 s75 s76 s77 s78 s79 s80 s81 s82 s83 s84 s85 s86 s87 s88 s89 s90 s91 s92 s93 s94 s95 s96 s97 s98 s99 s100 s101 s102 s103 s104 : Value) :
    Code.wp Try.prog (Code.loop rlp1) (LoopPostR 2 (fun a' w' => (∀ x ∈ l, x.key.size ≤ 255) ∧ (L0 ++ l.flatMap encEnt).length ≤ 1000 + 290 * n ∧ (∃ v, BSt w0 (L0 ++ l.flatMap encEnt) v w' ∧ (∃ u2 u3 u8 u50 u51 u52 u53 u54 u55 u56 u57 u58 u59 u60 u61 u62 u63 u64 u65 u66 u67 u68 u69 u70 u71 u72 u73 u74 : Value, a' = ⟨#[s0, s1, u2, u3, s4, s5, v, s7, u8, s9, s10, s11, s12, s13, s14, s15, s16, s17, s18, s19, s20, s21, s22, s23, s24, s25, s26, s27, s28, s29, s30, s31, s32, s33, s34, s35, s36, s37, s38, s39, s40, s41, s42, s43, s44, s45, s46, s47, .slice AE n cE, .int .i64 (n : Int), u50, u51, u52, u53, u54, u55, u56, u57, u58, u59, u60, u61, u62, u63, u64, u65, u66, u67, u68, u69, u70, u71, u72, u73, u74, s75, s76, s77, s78, s79, s80, s81, s82, s83, s84, s85, s86, s87, s88, s89, s90, s91, s92, s93, s94, s95, s96, s97, s98, s99, s100, s101, s102, s103, s104], []⟩))) (fun a' w' => (∃ x ∈ l, 255 < x.key.size) ∧ Keeps (fun _ => False) w0 w' ∧ (∃ u6 u8 u50 u51 u52 u53 u54 u55 u56 u57 u58 u59 u60 u61 u62 u63 u64 u65 u66 u67 u68 u69 u70 u71 u72 u73 u74 : Value, a' = ⟨#[s0, s1, .slice none 0 0, .int .i64 4, s4, s5, u6, s7, u8, s9, s10, s11, s12, s13, s14, s15, s16, s17, s18, s19, s20, s21, s22, s23, s24, s25, s26, s27, s28, s29, s30, s31, s32, s33, s34, s35, s36, s37, s38, s39, s40, s41, s42, s43, s44, s45, s46, s47, .slice AE n cE, .int .i64 (n : Int), u50, u51, u52, u53, u54, u55, u56, u57, u58, u59, u60, u61, u62, u63, u64, u65, u66, u67, u68, u69, u70, u71, u72, u73, u74, s75, s76, s77, s78, s79, s80, s81, s82, s83, s84, s85, s86, s87, s88, s89, s90, s91, s92, s93, s94, s95, s96, s97, s98, s99, s100, s101, s102, s103, s104], []⟩))) ⟨#[s0, s1, s2, s3, s4, s5, v0, s7, s8, s9, s10, s11, s12, s13, s14, s15, s16, s17, s18, s19, s20, s21, s22, s23, s24, s25, s26, s27, s28, s29, s30, s31, s32, s33, s34, s35, s36, s37, s38, s39, s40, s41, s42, s43, s44, s45, s46, s47, .slice AE n cE, .int .i64 (n : Int), .int .i64 0, s51, s52, s53, s54, s55, s56, s57, s58, s59, s60, s61, s62, s63, s64, s65, s66, s67, s68, s69, s70, s71, s72, s73, s74, s75, s76, s77, s78, s79, s80, s81, s82, s83, s84, s85, s86, s87, s88, s89, s90, s91, s92, s93, s94, s95, s96, s97, s98, s99, s100, s101, s102, s103, s104], []⟩ w0 := by
  have HL := hide hl
  have hln := lnRd_len hl
  have HU := hide hU
  have HLN := hide hln
  have H0 := hide h0
  clear hl hU h0 hln
  conv => arg 2; arg 1; whnf
  dsimp only
  go_loopw [6, 50] (fun bv iv wr => ∃ i : Nat, i ≤ n ∧ iv = .int .i64 i ∧ Hid ((∀ x ∈ l.take i, x.key.size ≤ 255) ∧ (L0 ++ (l.take i).flatMap encEnt).length ≤ 1000 + 290 * i ∧ BSt w0 (L0 ++ (l.take i).flatMap encEnt) bv wr)) (fun _ iv _ => n - (intOf iv).toNat)
  case atStart => exact ⟨0, by omega, rfl, hide ⟨fun x hx => by simp at hx, by simpa using hL, by simpa using H0.out⟩⟩
  case round =>
    obtain ⟨i, hi, rfl, HS⟩ := hrel
    by_cases hlt : i < n
    · have HLT : Hid (i + 1 ≤ n) := hlt
      obtain ⟨x, hx⟩ : ∃ x, l[i]? = some x := ⟨l[i]'(by rw [HLN.out]; exact hlt), by simp⟩
      obtain ⟨hs1, hs2, A, nb, cb, rfl, hnb, hcb, hrb, kr⟩ := HS.out
      obtain ⟨b, off, rfl, hbB, c0, c1, c2⟩ := lnRd_at (HL.out.kept kr (fun _ _ h => h)) hx (by omega)
      have hbr : b < wr.heap.size := by have := kr.size; omega
      have hiI : (i : Int) < (n : Int) := by omega
      have hi0 : (0 : Int) ≤ (i : Int) := by omega
      have kA := (Keeps.refl (fun _ => False) wr).alloc (.cells #[.string x.key, .int .u64 x.lo, .int .u64 x.hi] 99)
      have BA := hide (Blk.new wr 99 #[.string x.key, .int .u64 x.lo, .int .u64 x.hi])
      have RA := hide ((hrb.kept kA (fun _ _ h => h)).more kA.size)
      have KA := hide (kr.trans kA)
      have HX := hide hx
      obtain ⟨L1, hL1⟩ : ∃ L1, L1 = L0 ++ (l.take i).flatMap encEnt := ⟨_, rfl⟩
      have HTF : Hid (L0 ++ (l.take (i + 1)).flatMap encEnt = L1 ++ encEnt x) := hide (by rw [take_flat hx, ← List.append_assoc, ← hL1])
      rw [← hL1] at hs2 hnb RA
      have HS1 := hide hs1
      clear hcb hs1 hrb kr kA hx HS hL1
      by_cases hk : 255 < x.key.size
      · have e1 : (255 : Int) < (x.key.size : Int) := by omega
        go_wp2_with fail
        trace "LONG"
        refine ⟨⟨x, List.mem_of_getElem? HX.out, hk⟩, KA.out, ⟨_, _, _, _, _, _, _, _, _, _, _, _, _, _, _, _, _, _, _, _, _, _, _, _, _, _, _, rfl⟩⟩
      have hks : x.key.size ≤ 255 := by omega
      have e1 : ¬ ((255 : Int) < (x.key.size : Int)) := by omega
      clear hk
      go_upto_region 17 with fail
      trace "R17"
      generalize wr.alloc _ = w3 at *
      generalize wr.heap.size = gx at *
      have q0 : w3.cell? ⟨gx, 0, none⟩ = some (.string x.key) := BA.out.cell 0
      have hnb2 : nb ≤ 10000000 := by omega
      refine Code.wp_mono ?_ (rreg17 w3 L1 A nb cb gx x.key RA.out hnb2 hks q0 BA.out.lt _ _ _ _ _ _ _ _ _ _ _ _ _ _ _ _ _ _ _ _ _ _ _ _ _ _ _ _ _ _ _ _ _ _ _ _ _ _ _ _ _ _ _ _ _ _ _ _ _ _ _ _ _ _ _ _ _ _ _ _ _ _ _ _ _ _ _ _ _ _ _ _ _ _ _ _ _ _ _ _ _ _ _ _ _ _ _ _ _ _ _ _ _ _ _ _ _ _ _ _ _ _ _)
      intro e a' w4 hex
      cases e <;> (first | exact hex.elim | skip)
      obtain ⟨A4, n4, c4, ⟨o4, k4⟩, ⟨v58, v59, v60, v61, v62, v63, v64, v65, v66, rfl⟩⟩ := hex
      have hn4 : n4 ≤ 10000000 := by have := o4.len; simp at this; have := (enc_len x.key.size).2; omega
      have BA4 := hide (BA.out.kept k4 (fun h => h))
      have R4 := hide (o4.rd (by omega))
      have K4 := hide (KA.out.trans k4)
      have q1 : w4.cell? ⟨gx, 1, none⟩ = some (.int .u64 x.lo) := BA4.out.cell 1
      have q2 : w4.cell? ⟨gx, 2, none⟩ = some (.int .u64 x.hi) := BA4.out.cell 2
      clear o4 k4 BA KA RA q0
      dsimp only
      go_upto_region 18 with fail
      trace "R18"
      refine Code.wp_mono ?_ (rreg18 w4 (L1 ++ enc x.key.size ++ x.key.data.toList) A4 n4 c4 gx x.lo x.hi R4.out hn4 (HU.out x (List.mem_of_getElem? HX.out)).1 (HU.out x (List.mem_of_getElem? HX.out)).2 q1 q2 _ _ _ _ _ _ _ _ _ _ _ _ _ _ _ _ _ _ _ _ _ _ _ _ _ _ _ _ _ _ _ _ _ _ _ _ _ _ _ _ _ _ _ _ _ _ _ _ _ _ _ _ _ _ _ _ _ _ _ _ _ _ _ _ _ _ _ _ _ _ _ _ _ _ _ _ _ _ _ _ _ _ _ _ _ _ _ _ _ _ _ _ _ _ _ _ _ _ _ _ _ _ _)
      intro e a' w5 hex
      cases e <;> (first | exact hex.elim | skip)
      obtain ⟨A5, n5, c5, ⟨hn5, hc5, r5, k5⟩, ⟨y67, y68, y69, y70, y71, y72, y73, rfl⟩⟩ := hex
      have HN : Hid ((∀ x ∈ l.take (i + 1), x.key.size ≤ 255) ∧ (L0 ++ (l.take (i + 1)).flatMap encEnt).length ≤ 1000 + 290 * (i + 1) ∧ BSt w0 (L0 ++ (l.take (i + 1)).flatMap encEnt) (.slice A5 n5 c5) w5) := hide (by
        have he : L1 ++ enc x.key.size ++ x.key.data.toList ++ enc x.lo.toNat ++ enc x.hi.toNat = L0 ++ (l.take (i + 1)).flatMap encEnt := by rw [HTF.out]; simp [encEnt, List.append_assoc]
        rw [← he]
        refine ⟨fun y hy => ?_, ?_, A5, n5, c5, rfl, hn5, hc5, r5, K4.out.trans k5⟩
        · rw [List.take_add_one, HX.out] at hy
          rcases List.mem_append.1 hy with h | h
          · exact HS1.out y h
          · obtain rfl : y = x := by simpa using h
            exact hks
        · have a1 := (enc_len x.key.size).2
          have a2 := (enc_len x.lo.toNat).2
          have a3 := (enc_len x.hi.toNat).2
          have a4 : x.key.data.toList.length = x.key.size := by simp
          simp only [List.length_append]
          omega)
      clear hn5 hc5 r5 k5 K4 R4 BA4 q1 q2 HS1 HTF
      dsimp only
      go_wp2_with fail
      trace "ROUND"
      go_roundw
      case rel => exact ⟨i + 1, HLT.out, by go_num, HN⟩
      case measure => have := HLT.out; simp [intOf]; omega
    · obtain rfl : i = n := by omega
      have hT : l.take i = l := List.take_of_length_le (by rw [HLN.out]; exact Nat.le_refl _)
      rw [hT] at HS
      obtain ⟨hs1, hs2, hs3⟩ := HS.out
      go_wp2_with fail
      trace "END"
      first | exact ⟨rfl, hs1, hs2, _, hs3, _, _, _, _, _, _, _, _, _, _, _, _, _, _, _, _, _, _, _, _, _, _, _, _, _, _, _, _, rfl⟩ | exact ⟨rfl, hs1, hs2, hs3, _, _, _, _, _, _, _, _, _, _, _, _, _, _, _, _, _, _, _, _, _, _, _, _, _, _, _, _, rfl⟩ | (trace_state; fail)
end enc21
end Go.Proofs.Ytaiopdipldaimaa

set_option linter.unusedVariables false
set_option linter.unusedSimpArgs false
namespace Go.Proofs.Ytaiopdipldaimaa
open Go.RowKit Vp
namespace enc21
noncomputable def slp2 : Code := ((Try.f26.body.bind fun c => (loops c)[2]?).getD .skip)
noncomputable def slp3 : Code := ((Try.f26.body.bind fun c => (loops c)[3]?).getD .skip)
set_option maxRecDepth 1000000 in
set_option maxHeartbeats 4000000 in
theorem sloopN (w0 : World) (B : Nat) (AZ : Option Addr) (n cZ : Nat) (zs : List Int) (hl : Rd w0 B AZ 1 n (zs.map (.int .u64))) (hU : ∀ z ∈ zs, U z) (hn : n ≤ 256) (L0 : List UInt8) (v0 : Value) (h0 : BSt w0 L0 v0 w0) (hL : L0.length ≤ 1000000) (s0 s1 s2 s3 s4 s5 s7 s8 s9 s10 s11 s12 s13 s14 s15 s16 s17 s18 s19 s20 s21 s22 s23 s24 s25 s26 s27 s28 s29 s30 s31 s32 s33 s34 s35 s36 s37 s38 s39 s40 s41 s42 s43 s44 s45 s46 s47 s48 s49 s50 s51 s52 s53 s54 s55 s56 s57 s58 s59 s60 s61 s62 s63 s64 s65 s66 s67 s68 s69 s70 s71 s72 s73 s74 s75 s76 s77 s78 s79 s80 s81 s82 s83 s84 s85 s86 s87 s88 s89 s90 s91 s92 s96 s97 s98 s99 s100 s101 s102 s103 s104 : Value) :
    Code.wp Try.prog (Code.loop slp3) (LoopPostR 6 (fun a' w' => (L0 ++ encNum zs).length ≤ L0.length + 10 * n ∧ (∃ v, BSt w0 (L0 ++ encNum zs) v w' ∧ (∃ u12 u95 u96 u97 u98 u99 u100 u101 u102 : Value, a' = ⟨#[s0, s1, s2, s3, s4, s5, v, s7, s8, s9, s10, s11, u12, s13, s14, s15, s16, s17, s18, s19, s20, s21, s22, s23, s24, s25, s26, s27, s28, s29, s30, s31, s32, s33, s34, s35, s36, s37, s38, s39, s40, s41, s42, s43, s44, s45, s46, s47, s48, s49, s50, s51, s52, s53, s54, s55, s56, s57, s58, s59, s60, s61, s62, s63, s64, s65, s66, s67, s68, s69, s70, s71, s72, s73, s74, s75, s76, s77, s78, s79, s80, s81, s82, s83, s84, s85, s86, s87, s88, s89, s90, s91, s92, .slice AZ n cZ, .int .i64 (n : Int), u95, u96, u97, u98, u99, u100, u101, u102, s103, s104], []⟩))) (fun _ _ => False)) ⟨#[s0, s1, s2, s3, s4, s5, v0, s7, s8, s9, s10, s11, s12, s13, s14, s15, s16, s17, s18, s19, s20, s21, s22, s23, s24, s25, s26, s27, s28, s29, s30, s31, s32, s33, s34, s35, s36, s37, s38, s39, s40, s41, s42, s43, s44, s45, s46, s47, s48, s49, s50, s51, s52, s53, s54, s55, s56, s57, s58, s59, s60, s61, s62, s63, s64, s65, s66, s67, s68, s69, s70, s71, s72, s73, s74, s75, s76, s77, s78, s79, s80, s81, s82, s83, s84, s85, s86, s87, s88, s89, s90, s91, s92, .slice AZ n cZ, .int .i64 (n : Int), .int .i64 0, s96, s97, s98, s99, s100, s101, s102, s103, s104], []⟩ w0 := by
  have HL := hide hl
  have HLN := hide (show zs.length = n by simpa using hl.1)
  have HU := hide hU
  have H0 := hide h0
  clear hl hU h0
  conv => arg 2; arg 1; whnf
  dsimp only
  go_loopw [6, 95] (fun bv iv wr => ∃ i : Nat, i ≤ n ∧ iv = .int .i64 i ∧ Hid ((L0 ++ encNum (zs.take i)).length ≤ L0.length + 10 * i ∧ BSt w0 (L0 ++ encNum (zs.take i)) bv wr)) (fun _ iv _ => n - (intOf iv).toNat)
  case atStart => exact ⟨0, by omega, rfl, hide ⟨by simp [encNum], by simpa [encNum] using H0.out⟩⟩
  case round =>
    obtain ⟨i, hi, rfl, HS⟩ := hrel
    by_cases hlt : i < n
    · have HLT : Hid (i + 1 ≤ n) := hlt
      obtain ⟨x, hx⟩ : ∃ x, zs[i]? = some x := ⟨zs[i]'(by rw [HLN.out]; exact hlt), by simp⟩
      obtain ⟨hs2, A, nb, cb, rfl, hnb, hcb, hrb, kr⟩ := HS.out
      obtain ⟨b, off, rfl, hbB, hc⟩ := (HL.out.kept kr (fun _ _ h => h)).2 (by omega)
      have c0 := hc i (.int .u64 x) (by simp [hx])
      have hiI : (i : Int) < (n : Int) := by omega
      have hi0 : (0 : Int) ≤ (i : Int) := by omega
      have hUx := HU.out x (List.mem_of_getElem? hx)
      have hTF : encNum (zs.take (i + 1)) = encNum (zs.take i) ++ enc x.toNat := take_flat hx
      have HAp := hide (Varint.append_any (L0 ++ encNum (zs.take i)) A nb cb wr.heap.size wr hrb (Nat.le_refl _) (by omega) x hUx.1 hUx.2)
      have KR := hide kr
      have HS2 := hide hs2
      have HTF := hide hTF
      clear hcb hc hx hrb kr HS hs2 hnb hTF
      go_wp2_with fail
      refine HAp.out.mono ?_
      rintro e w5 ⟨A5, n5, c5, hn5, rfl, o5, k5⟩
      have HN : Hid ((L0 ++ encNum (zs.take (i + 1))).length ≤ L0.length + 10 * (i + 1) ∧ BSt w0 (L0 ++ encNum (zs.take (i + 1))) (.slice A5 n5 c5) w5) := hide (by
        rw [HTF.out, ← List.append_assoc]
        refine ⟨?_, A5, n5, c5, rfl, hn5, o5.le, o5.rd (by omega), KR.out.trans k5⟩
        have h3 := HS2.out
        have h4 := (enc_len x.toNat).2
        simp only [List.length_append] at h3 ⊢
        omega)
      clear hn5 o5 k5 KR HS2 HTF HAp
      go_wp2_with fail
      go_roundw
      case rel => exact ⟨i + 1, HLT.out, by go_num, HN⟩
      case measure => have := HLT.out; simp [intOf]; omega
    · obtain rfl : i = n := by omega
      have hT : zs.take i = zs := List.take_of_length_le (by rw [HLN.out]; exact Nat.le_refl _)
      rw [hT] at HS
      obtain ⟨hs2, hs3⟩ := HS.out
      go_wp2_with fail
      trace "ENDN"
      first | exact ⟨rfl, hs2, _, hs3, _, _, _, _, _, _, _, _, _, rfl⟩ | exact ⟨rfl, hs2, hs3, _, _, _, _, _, _, _, _, _, rfl⟩ | (trace_state; fail)
set_option maxRecDepth 1000000 in
set_option maxHeartbeats 4000000 in
theorem sloopR (w0 : World) (B : Nat) (R : Option Addr) (m cR : Nat) (F : RowsF) (hR : Rd w0 B R 1 m ((List.range m).map fun j => .slice (F j).1 (F j).2.1 (F j).2.2.1)) (hrr : RowsRd w0 B .u64 m F) (h256 : ∀ j, j < m → (F j).2.1 ≤ 256) (hm : m ≤ 4) (L0 : List UInt8) (v0 : Value) (h0 : BSt w0 L0 v0 w0) (hL : L0.length ≤ 100000) (s0 s1 s2 s3 s4 s5 s7 s8 s9 s10 s11 s12 s13 s14 s15 s16 s17 s18 s19 s20 s21 s22 s23 s24 s25 s26 s27 s28 s29 s30 s31 s32 s33 s34 s35 s36 s37 s38 s39 s40 s41 s42 s43 s44 s45 s46 s47 s48 s49 s50 s51 s52 s53 s54 s55 s56 s57 s58 s59 s60 s61 s62 s63 s64 s65 s66 s67 s68 s69 s70 s71 s72 s73 s74 s75 s76 s77 s78 s79 s80 s81 s85 s86 s87 s88 s89 s90 s91 s92 s93 s94 s95 s96 s97 s98 s99 s100 s101 s102 s103 s104 : Value) :
    Code.wp Try.prog (Code.loop slp2) (LoopPostR 4 (fun a' w' => (L0 ++ (Cmp.rowsL F m).flatMap encRow).length ≤ L0.length + 2600 * m ∧ (∃ v, BSt w0 (L0 ++ (Cmp.rowsL F m).flatMap encRow) v w' ∧ (∃ u10 u12 u84 u85 u86 u87 u88 u89 u90 u91 u92 u93 u94 u95 u96 u97 u98 u99 u100 u101 u102 u103 : Value, a' = ⟨#[s0, s1, s2, s3, s4, s5, v, s7, s8, s9, u10, s11, u12, s13, s14, s15, s16, s17, s18, s19, s20, s21, s22, s23, s24, s25, s26, s27, s28, s29, s30, s31, s32, s33, s34, s35, s36, s37, s38, s39, s40, s41, s42, s43, s44, s45, s46, s47, s48, s49, s50, s51, s52, s53, s54, s55, s56, s57, s58, s59, s60, s61, s62, s63, s64, s65, s66, s67, s68, s69, s70, s71, s72, s73, s74, s75, s76, s77, s78, s79, s80, s81, .slice R m cR, .int .i64 (m : Int), u84, u85, u86, u87, u88, u89, u90, u91, u92, u93, u94, u95, u96, u97, u98, u99, u100, u101, u102, u103, s104], []⟩))) (fun _ _ => False)) ⟨#[s0, s1, s2, s3, s4, s5, v0, s7, s8, s9, s10, s11, s12, s13, s14, s15, s16, s17, s18, s19, s20, s21, s22, s23, s24, s25, s26, s27, s28, s29, s30, s31, s32, s33, s34, s35, s36, s37, s38, s39, s40, s41, s42, s43, s44, s45, s46, s47, s48, s49, s50, s51, s52, s53, s54, s55, s56, s57, s58, s59, s60, s61, s62, s63, s64, s65, s66, s67, s68, s69, s70, s71, s72, s73, s74, s75, s76, s77, s78, s79, s80, s81, .slice R m cR, .int .i64 (m : Int), .int .i64 0, s85, s86, s87, s88, s89, s90, s91, s92, s93, s94, s95, s96, s97, s98, s99, s100, s101, s102, s103, s104], []⟩ w0 := by
  have HL := hide hR
  have HRR := hide hrr
  have HLN := hide (Cmp.rowsL_len F m)
  have H256 := hide h256
  have H0 := hide h0
  clear hR hrr h256 h0
  conv => arg 2; arg 1; whnf
  dsimp only
  go_loopw [6, 84] (fun bv iv wr => ∃ i : Nat, i ≤ m ∧ iv = .int .i64 i ∧ Hid ((L0 ++ ((Cmp.rowsL F m).take i).flatMap encRow).length ≤ L0.length + 2600 * i ∧ BSt w0 (L0 ++ ((Cmp.rowsL F m).take i).flatMap encRow) bv wr)) (fun _ iv _ => m - (intOf iv).toNat)
  case atStart => exact ⟨0, by omega, rfl, hide ⟨by simp, by simpa using H0.out⟩⟩
  case round =>
    obtain ⟨i, hi, rfl, HS⟩ := hrel
    by_cases hlt : i < m
    · have HLT : Hid (i + 1 ≤ m) := hlt
      obtain ⟨hs2, A, nb, cb, rfl, hnb, hcb, hrb, kr⟩ := HS.out
      obtain ⟨b, off, rfl, hbB, hc⟩ := (HL.out.kept kr (fun _ _ h => h)).2 (by omega)
      have c0 := hc i (.slice (F i).1 (F i).2.1 (F i).2.2.1) (by simp [hlt])
      have hiI : (i : Int) < (m : Int) := by omega
      have hi0 : (0 : Int) ≤ (i : Int) := by omega
      have hri := HRR.out i hlt
      have hlen : (F i).2.2.2.length = (F i).2.1 := by simpa using hri.1.1
      have h256i := H256.out i hlt
      have hTF : ((Cmp.rowsL F m).take (i + 1)).flatMap encRow = ((Cmp.rowsL F m).take i).flatMap encRow ++ encRow (F i).2.2.2 := take_flat (rowsL_get hlt)
      have RZ := hide (hri.1.kept kr (fun _ _ h => h))
      have HUz : Hid (∀ z ∈ (F i).2.2.2, U z) := hide (fun z hz => wf_u64 (hri.2.1 z hz))
      obtain ⟨L1, hL1⟩ : ∃ L1, L1 = L0 ++ ((Cmp.rowsL F m).take i).flatMap encRow := ⟨_, rfl⟩
      have HTF : Hid (L0 ++ ((Cmp.rowsL F m).take (i + 1)).flatMap encRow = L1 ++ enc (F i).2.2.2.length ++ encNum (F i).2.2.2) := hide (by rw [hTF, ← List.append_assoc, ← hL1, encRow, List.append_assoc])
      rw [← hL1] at hs2 hnb hrb
      obtain ⟨zs, hzs⟩ : ∃ zs, zs = (F i).2.2.2 := ⟨_, rfl⟩
      obtain ⟨nz, hnz⟩ : ∃ nz, nz = (F i).2.1 := ⟨_, rfl⟩
      rw [← hzs] at RZ HUz HTF hlen
      rw [← hnz] at RZ hlen h256i c0
      have ew : IntKind.u64.wrap (nz : Int) = nz := by rw [IntKind.wrap_u64]; omega
      have HAp := hide (Varint.append_any L1 A nb cb wr.heap.size wr hrb (Nat.le_refl _) (by omega) (nz : Int) (by omega) (by omega))
      have KR := hide kr
      have HS2 := hide hs2
      have hlL1 : L1.length ≤ 200000 := by rw [hnb] at *; omega
      clear hcb hc hrb kr HS hs2 hnb hTF hri hL1 hzs hnz
      go_wp2_with fail
      trace "APP"
      refine HAp.out.mono ?_
      rintro e w5 ⟨A5, n5, c5, hn5, rfl, o5, k5⟩
      rw [Int.toNat_natCast] at o5 hn5
      have B5 := hide (show BSt w5 (L1 ++ enc nz) (.slice A5 n5 c5) w5 from ⟨A5, n5, c5, rfl, hn5, o5.le, o5.rd (by omega), Keeps.refl _ _⟩)
      have K5 := hide (KR.out.trans k5)
      have RZ5 := hide (RZ.out.kept k5 (fun _ _ h => h))
      have hl5 : (L1 ++ enc nz).length ≤ L1.length + 10 := by have := (enc_len nz).2; rw [List.length_append]; omega
      clear hn5 o5 k5 KR RZ HAp
      go_upto_block 6 with fail
      go_wp2_with fail
      trace "INNER"
      refine Code.wp_mono ?_ (sloopN w5 B (F i).1 nz (F i).2.2.1 zs RZ5.out HUz.out h256i (L1 ++ enc nz) _ B5.out (by omega) _ _ _ _ _ _ _ _ _ _ _ _ _ _ _ _ _ _ _ _ _ _ _ _ _ _ _ _ _ _ _ _ _ _ _ _ _ _ _ _ _ _ _ _ _ _ _ _ _ _ _ _ _ _ _ _ _ _ _ _ _ _ _ _ _ _ _ _ _ _ _ _ _ _ _ _ _ _ _ _ _ _ _ _ _ _ _ _ _ _ _ _ _ _ _ _ _ _ _ _ _)
      intro e a' w6 hex
      cases e <;> (first | exact hex.elim | skip)
      obtain ⟨rfl, hle, v6, ⟨A6, n6, c6, rfl, hn6, hc6, r6, k6⟩, ⟨x12, x95, x96, x97, x98, x99, x100, x101, x102, rfl⟩⟩ := hex
      have HN : Hid ((L0 ++ ((Cmp.rowsL F m).take (i + 1)).flatMap encRow).length ≤ L0.length + 2600 * (i + 1) ∧ BSt w0 (L0 ++ ((Cmp.rowsL F m).take (i + 1)).flatMap encRow) (.slice A6 n6 c6) w6) := hide (by
        rw [HTF.out, hlen]
        refine ⟨?_, A6, n6, c6, rfl, hn6, hc6, r6, K5.out.trans k6⟩
        have := HS2.out
        omega)
      clear hle hn6 hc6 r6 k6 K5 RZ5 B5 HTF HS2
      dsimp only
      go_wp2_with fail
      trace "ROUND"
      go_roundw
      case rel => exact ⟨i + 1, HLT.out, by go_num, HN⟩
      case measure => have := HLT.out; simp [intOf]; omega
    · obtain rfl : i = m := by omega
      have hT : (Cmp.rowsL F i).take i = Cmp.rowsL F i := List.take_of_length_le (by rw [HLN.out]; exact Nat.le_refl _)
      rw [hT] at HS
      obtain ⟨hs2, hs3⟩ := HS.out
      go_wp2_with fail
      trace "ENDR"
      first | exact ⟨rfl, hs2, _, hs3, _, _, _, _, _, _, _, _, _, _, _, _, _, _, _, _, _, _, _, _, _, _, rfl⟩ | exact ⟨rfl, hs2, hs3, _, _, _, _, _, _, _, _, _, _, _, _, _, _, _, _, _, _, _, _, _, _, rfl⟩ | (trace_state; fail)
noncomputable def rlp2 : Code := ((Try.f27.body.bind fun c => (loops c)[2]?).getD .skip)
noncomputable def rlp3 : Code := ((Try.f27.body.bind fun c => (loops c)[3]?).getD .skip)
set_option maxRecDepth 1000000 in
set_option maxHeartbeats 4000000 in
theorem rloopN (w0 : World) (B : Nat) (AZ : Option Addr) (n cZ : Nat) (zs : List Int) (hl : Rd w0 B AZ 1 n (zs.map (.int .u64))) (hU : ∀ z ∈ zs, U z) (hn : n ≤ 256) (L0 : List UInt8) (v0 : Value) (h0 : BSt w0 L0 v0 w0) (hL : L0.length ≤ 1000000) (s0 s1 s2 s3 s4 s5 s7 s8 s9 s10 s11 s12 s13 s14 s15 s16 s17 s18 s19 s20 s21 s22 s23 s24 s25 s26 s27 s28 s29 s30 s31 s32 s33 s34 s35 s36 s37 s38 s39 s40 s41 s42 s43 s44 s45 s46 s47 s48 s49 s50 s51 s52 s53 s54 s55 s56 s57 s58 s59 s60 s61 s62 s63 s64 s65 s66 s67 s68 s69 s70 s71 s72 s73 s74 s75 s76 s77 s78 s79 s80 s81 s82 s83 s84 s85 s86 s87 s88 s89 s90 s91 s92 s96 s97 s98 s99 s100 s101 s102 s103 s104 : Value) :
    Code.wp Try.prog (Code.loop rlp3) (LoopPostR 6 (fun a' w' => (L0 ++ encNum zs).length ≤ L0.length + 10 * n ∧ (∃ v, BSt w0 (L0 ++ encNum zs) v w' ∧ (∃ u12 u95 u96 u97 u98 u99 u100 u101 u102 : Value, a' = ⟨#[s0, s1, s2, s3, s4, s5, v, s7, s8, s9, s10, s11, u12, s13, s14, s15, s16, s17, s18, s19, s20, s21, s22, s23, s24, s25, s26, s27, s28, s29, s30, s31, s32, s33, s34, s35, s36, s37, s38, s39, s40, s41, s42, s43, s44, s45, s46, s47, s48, s49, s50, s51, s52, s53, s54, s55, s56, s57, s58, s59, s60, s61, s62, s63, s64, s65, s66, s67, s68, s69, s70, s71, s72, s73, s74, s75, s76, s77, s78, s79, s80, s81, s82, s83, s84, s85, s86, s87, s88, s89, s90, s91, s92, .slice AZ n cZ, .int .i64 (n : Int), u95, u96, u97, u98, u99, u100, u101, u102, s103, s104], []⟩))) (fun _ _ => False)) ⟨#[s0, s1, s2, s3, s4, s5, v0, s7, s8, s9, s10, s11, s12, s13, s14, s15, s16, s17, s18, s19, s20, s21, s22, s23, s24, s25, s26, s27, s28, s29, s30, s31, s32, s33, s34, s35, s36, s37, s38, s39, s40, s41, s42, s43, s44, s45, s46, s47, s48, s49, s50, s51, s52, s53, s54, s55, s56, s57, s58, s59, s60, s61, s62, s63, s64, s65, s66, s67, s68, s69, s70, s71, s72, s73, s74, s75, s76, s77, s78, s79, s80, s81, s82, s83, s84, s85, s86, s87, s88, s89, s90, s91, s92, .slice AZ n cZ, .int .i64 (n : Int), .int .i64 0, s96, s97, s98, s99, s100, s101, s102, s103, s104], []⟩ w0 := by
  have HL := hide hl
  have HLN := hide (show zs.length = n by simpa using hl.1)
  have HU := hide hU
  have H0 := hide h0
  clear hl hU h0
  conv => arg 2; arg 1; whnf
  dsimp only
  go_loopw [6, 95] (fun bv iv wr => ∃ i : Nat, i ≤ n ∧ iv = .int .i64 i ∧ Hid ((L0 ++ encNum (zs.take i)).length ≤ L0.length + 10 * i ∧ BSt w0 (L0 ++ encNum (zs.take i)) bv wr)) (fun _ iv _ => n - (intOf iv).toNat)
  case atStart => exact ⟨0, by omega, rfl, hide ⟨by simp [encNum], by simpa [encNum] using H0.out⟩⟩
  case round =>
    obtain ⟨i, hi, rfl, HS⟩ := hrel
    by_cases hlt : i < n
    · have HLT : Hid (i + 1 ≤ n) := hlt
      obtain ⟨x, hx⟩ : ∃ x, zs[i]? = some x := ⟨zs[i]'(by rw [HLN.out]; exact hlt), by simp⟩
      obtain ⟨hs2, A, nb, cb, rfl, hnb, hcb, hrb, kr⟩ := HS.out
      obtain ⟨b, off, rfl, hbB, hc⟩ := (HL.out.kept kr (fun _ _ h => h)).2 (by omega)
      have c0 := hc i (.int .u64 x) (by simp [hx])
      have hiI : (i : Int) < (n : Int) := by omega
      have hi0 : (0 : Int) ≤ (i : Int) := by omega
      have hUx := HU.out x (List.mem_of_getElem? hx)
      have hTF : encNum (zs.take (i + 1)) = encNum (zs.take i) ++ enc x.toNat := take_flat hx
      have HAp := hide (Varint.rappend_any (L0 ++ encNum (zs.take i)) A nb cb wr.heap.size wr hrb (Nat.le_refl _) (by omega) x hUx.1 hUx.2)
      have KR := hide kr
      have HS2 := hide hs2
      have HTF := hide hTF
      clear hcb hc hx hrb kr HS hs2 hnb hTF
      go_wp2_with fail
      refine HAp.out.mono ?_
      rintro e w5 ⟨A5, n5, c5, hn5, rfl, o5, k5⟩
      have HN : Hid ((L0 ++ encNum (zs.take (i + 1))).length ≤ L0.length + 10 * (i + 1) ∧ BSt w0 (L0 ++ encNum (zs.take (i + 1))) (.slice A5 n5 c5) w5) := hide (by
        rw [HTF.out, ← List.append_assoc]
        refine ⟨?_, A5, n5, c5, rfl, hn5, o5.le, o5.rd (by omega), KR.out.trans k5⟩
        have h3 := HS2.out
        have h4 := (enc_len x.toNat).2
        simp only [List.length_append] at h3 ⊢
        omega)
      clear hn5 o5 k5 KR HS2 HTF HAp
      go_wp2_with fail
      go_roundw
      case rel => exact ⟨i + 1, HLT.out, by go_num, HN⟩
      case measure => have := HLT.out; simp [intOf]; omega
    · obtain rfl : i = n := by omega
      have hT : zs.take i = zs := List.take_of_length_le (by rw [HLN.out]; exact Nat.le_refl _)
      rw [hT] at HS
      obtain ⟨hs2, hs3⟩ := HS.out
      go_wp2_with fail
      trace "ENDN"
      first | exact ⟨rfl, hs2, _, hs3, _, _, _, _, _, _, _, _, _, rfl⟩ | exact ⟨rfl, hs2, hs3, _, _, _, _, _, _, _, _, _, rfl⟩ | (trace_state; fail)
set_option maxRecDepth 1000000 in
set_option maxHeartbeats 4000000 in
theorem rloopR (w0 : World) (B : Nat) (R : Option Addr) (m cR : Nat) (F : RowsF) (hR : Rd w0 B R 1 m ((List.range m).map fun j => .slice (F j).1 (F j).2.1 (F j).2.2.1)) (hrr : RowsRd w0 B .u64 m F) (h256 : ∀ j, j < m → (F j).2.1 ≤ 256) (hm : m ≤ 4) (L0 : List UInt8) (v0 : Value) (h0 : BSt w0 L0 v0 w0) (hL : L0.length ≤ 100000) (s0 s1 s2 s3 s4 s5 s7 s8 s9 s10 s11 s12 s13 s14 s15 s16 s17 s18 s19 s20 s21 s22 s23 s24 s25 s26 s27 s28 s29 s30 s31 s32 s33 s34 s35 s36 s37 s38 s39 s40 s41 s42 s43 s44 s45 s46 s47 s48 s49 s50 s51 s52 s53 s54 s55 s56 s57 s58 s59 s60 s61 s62 s63 s64 s65 s66 s67 s68 s69 s70 s71 s72 s73 s74 s75 s76 s77 s78 s79 s80 s81 s85 s86 s87 s88 s89 s90 s91 s92 s93 s94 s95 s96 s97 s98 s99 s100 s101 s102 s103 s104 : Value) :
    Code.wp Try.prog (Code.loop rlp2) (LoopPostR 4 (fun a' w' => (L0 ++ (Cmp.rowsL F m).flatMap encRow).length ≤ L0.length + 2600 * m ∧ (∃ v, BSt w0 (L0 ++ (Cmp.rowsL F m).flatMap encRow) v w' ∧ (∃ u10 u12 u84 u85 u86 u87 u88 u89 u90 u91 u92 u93 u94 u95 u96 u97 u98 u99 u100 u101 u102 u103 : Value, a' = ⟨#[s0, s1, s2, s3, s4, s5, v, s7, s8, s9, u10, s11, u12, s13, s14, s15, s16, s17, s18, s19, s20, s21, s22, s23, s24, s25, s26, s27, s28, s29, s30, s31, s32, s33, s34, s35, s36, s37, s38, s39, s40, s41, s42, s43, s44, s45, s46, s47, s48, s49, s50, s51, s52, s53, s54, s55, s56, s57, s58, s59, s60, s61, s62, s63, s64, s65, s66, s67, s68, s69, s70, s71, s72, s73, s74, s75, s76, s77, s78, s79, s80, s81, .slice R m cR, .int .i64 (m : Int), u84, u85, u86, u87, u88, u89, u90, u91, u92, u93, u94, u95, u96, u97, u98, u99, u100, u101, u102, u103, s104], []⟩))) (fun _ _ => False)) ⟨#[s0, s1, s2, s3, s4, s5, v0, s7, s8, s9, s10, s11, s12, s13, s14, s15, s16, s17, s18, s19, s20, s21, s22, s23, s24, s25, s26, s27, s28, s29, s30, s31, s32, s33, s34, s35, s36, s37, s38, s39, s40, s41, s42, s43, s44, s45, s46, s47, s48, s49, s50, s51, s52, s53, s54, s55, s56, s57, s58, s59, s60, s61, s62, s63, s64, s65, s66, s67, s68, s69, s70, s71, s72, s73, s74, s75, s76, s77, s78, s79, s80, s81, .slice R m cR, .int .i64 (m : Int), .int .i64 0, s85, s86, s87, s88, s89, s90, s91, s92, s93, s94, s95, s96, s97, s98, s99, s100, s101, s102, s103, s104], []⟩ w0 := by
  have HL := hide hR
  have HRR := hide hrr
  have HLN := hide (Cmp.rowsL_len F m)
  have H256 := hide h256
  have H0 := hide h0
  clear hR hrr h256 h0
  conv => arg 2; arg 1; whnf
  dsimp only
  go_loopw [6, 84] (fun bv iv wr => ∃ i : Nat, i ≤ m ∧ iv = .int .i64 i ∧ Hid ((L0 ++ ((Cmp.rowsL F m).take i).flatMap encRow).length ≤ L0.length + 2600 * i ∧ BSt w0 (L0 ++ ((Cmp.rowsL F m).take i).flatMap encRow) bv wr)) (fun _ iv _ => m - (intOf iv).toNat)
  case atStart => exact ⟨0, by omega, rfl, hide ⟨by simp, by simpa using H0.out⟩⟩
  case round =>
    obtain ⟨i, hi, rfl, HS⟩ := hrel
    by_cases hlt : i < m
    · have HLT : Hid (i + 1 ≤ m) := hlt
      obtain ⟨hs2, A, nb, cb, rfl, hnb, hcb, hrb, kr⟩ := HS.out
      obtain ⟨b, off, rfl, hbB, hc⟩ := (HL.out.kept kr (fun _ _ h => h)).2 (by omega)
      have c0 := hc i (.slice (F i).1 (F i).2.1 (F i).2.2.1) (by simp [hlt])
      have hiI : (i : Int) < (m : Int) := by omega
      have hi0 : (0 : Int) ≤ (i : Int) := by omega
      have hri := HRR.out i hlt
      have hlen : (F i).2.2.2.length = (F i).2.1 := by simpa using hri.1.1
      have h256i := H256.out i hlt
      have hTF : ((Cmp.rowsL F m).take (i + 1)).flatMap encRow = ((Cmp.rowsL F m).take i).flatMap encRow ++ encRow (F i).2.2.2 := take_flat (rowsL_get hlt)
      have RZ := hide (hri.1.kept kr (fun _ _ h => h))
      have HUz : Hid (∀ z ∈ (F i).2.2.2, U z) := hide (fun z hz => wf_u64 (hri.2.1 z hz))
      obtain ⟨L1, hL1⟩ : ∃ L1, L1 = L0 ++ ((Cmp.rowsL F m).take i).flatMap encRow := ⟨_, rfl⟩
      have HTF : Hid (L0 ++ ((Cmp.rowsL F m).take (i + 1)).flatMap encRow = L1 ++ enc (F i).2.2.2.length ++ encNum (F i).2.2.2) := hide (by rw [hTF, ← List.append_assoc, ← hL1, encRow, List.append_assoc])
      rw [← hL1] at hs2 hnb hrb
      obtain ⟨zs, hzs⟩ : ∃ zs, zs = (F i).2.2.2 := ⟨_, rfl⟩
      obtain ⟨nz, hnz⟩ : ∃ nz, nz = (F i).2.1 := ⟨_, rfl⟩
      rw [← hzs] at RZ HUz HTF hlen
      rw [← hnz] at RZ hlen h256i c0
      have ew : IntKind.u64.wrap (nz : Int) = nz := by rw [IntKind.wrap_u64]; omega
      have HAp := hide (Varint.rappend_any L1 A nb cb wr.heap.size wr hrb (Nat.le_refl _) (by omega) (nz : Int) (by omega) (by omega))
      have KR := hide kr
      have HS2 := hide hs2
      have hlL1 : L1.length ≤ 200000 := by rw [hnb] at *; omega
      clear hcb hc hrb kr HS hs2 hnb hTF hri hL1 hzs hnz
      go_wp2_with fail
      trace "APP"
      refine HAp.out.mono ?_
      rintro e w5 ⟨A5, n5, c5, hn5, rfl, o5, k5⟩
      rw [Int.toNat_natCast] at o5 hn5
      have B5 := hide (show BSt w5 (L1 ++ enc nz) (.slice A5 n5 c5) w5 from ⟨A5, n5, c5, rfl, hn5, o5.le, o5.rd (by omega), Keeps.refl _ _⟩)
      have K5 := hide (KR.out.trans k5)
      have RZ5 := hide (RZ.out.kept k5 (fun _ _ h => h))
      have hl5 : (L1 ++ enc nz).length ≤ L1.length + 10 := by have := (enc_len nz).2; rw [List.length_append]; omega
      clear hn5 o5 k5 KR RZ HAp
      go_upto_block 6 with fail
      go_wp2_with fail
      trace "INNER"
      refine Code.wp_mono ?_ (rloopN w5 B (F i).1 nz (F i).2.2.1 zs RZ5.out HUz.out h256i (L1 ++ enc nz) _ B5.out (by omega) _ _ _ _ _ _ _ _ _ _ _ _ _ _ _ _ _ _ _ _ _ _ _ _ _ _ _ _ _ _ _ _ _ _ _ _ _ _ _ _ _ _ _ _ _ _ _ _ _ _ _ _ _ _ _ _ _ _ _ _ _ _ _ _ _ _ _ _ _ _ _ _ _ _ _ _ _ _ _ _ _ _ _ _ _ _ _ _ _ _ _ _ _ _ _ _ _ _ _ _ _)
      intro e a' w6 hex
      cases e <;> (first | exact hex.elim | skip)
      obtain ⟨rfl, hle, v6, ⟨A6, n6, c6, rfl, hn6, hc6, r6, k6⟩, ⟨x12, x95, x96, x97, x98, x99, x100, x101, x102, rfl⟩⟩ := hex
      have HN : Hid ((L0 ++ ((Cmp.rowsL F m).take (i + 1)).flatMap encRow).length ≤ L0.length + 2600 * (i + 1) ∧ BSt w0 (L0 ++ ((Cmp.rowsL F m).take (i + 1)).flatMap encRow) (.slice A6 n6 c6) w6) := hide (by
        rw [HTF.out, hlen]
        refine ⟨?_, A6, n6, c6, rfl, hn6, hc6, r6, K5.out.trans k6⟩
        have := HS2.out
        omega)
      clear hle hn6 hc6 r6 k6 K5 RZ5 B5 HTF HS2
      dsimp only
      go_wp2_with fail
      trace "ROUND"
      go_roundw
      case rel => exact ⟨i + 1, HLT.out, by go_num, HN⟩
      case measure => have := HLT.out; simp [intOf]; omega
    · obtain rfl : i = m := by omega
      have hT : (Cmp.rowsL F i).take i = Cmp.rowsL F i := List.take_of_length_le (by rw [HLN.out]; exact Nat.le_refl _)
      rw [hT] at HS
      obtain ⟨hs2, hs3⟩ := HS.out
      go_wp2_with fail
      trace "ENDR"
      first | exact ⟨rfl, hs2, _, hs3, _, _, _, _, _, _, _, _, _, _, _, _, _, _, _, _, _, _, _, _, _, _, rfl⟩ | exact ⟨rfl, hs2, hs3, _, _, _, _, _, _, _, _, _, _, _, _, _, _, _, _, _, _, _, _, _, _, rfl⟩ | (trace_state; fail)
end enc21
end Go.Proofs.Ytaiopdipldaimaa

set_option linter.unusedVariables false
set_option linter.unusedSimpArgs false
namespace Go.Proofs.Ytaiopdipldaimaa
open Go.RowKit Vp enc21
/-- the error of Encode -/
def encErr (l : List Ln) (R : List (List Int)) : Int := if 96 < l.length ∨ 4 < R.length then 7 else if R.any (fun r => decide (256 < r.length)) = true then 7 else if l.any (fun x => decide (255 < x.key.size)) = true then 4 else 0
/-- the bytes of a summary -/
def encAll (tot un : Int) (l : List Ln) (R : List (List Int)) : List UInt8 := enc tot.toNat ++ enc un.toNat ++ enc l.length ++ l.flatMap encEnt ++ enc R.length ++ R.flatMap encRow
/-- what Encode gives -/
def Encd (w : World) (tot un : Int) (l : List Ln) (R : List (List Int)) (e : Ending) (w' : World) : Prop :=
  ∃ A n c, e = .returned (.tuple #[.slice A n c, .int .i64 (encErr l R)]) ∧ n = (if encErr l R = 0 then encAll tot un l R else []).length ∧ n ≤ 100000 ∧ n ≤ c ∧ Rd w' w'.heap.size A 1 n ((if encErr l R = 0 then encAll tot un l R else []).map by8) ∧ Keeps (fun _ => False) w w'
set_option maxRecDepth 100000 in
set_option maxHeartbeats 1000000 in
theorem encode_any (w : World) (B : Nat) (tot un : Int) (A R : Option Addr) (n cA m cR : Nat) (l : List Ln) (F : RowsF) (h : SmIn w B A n l R m F) (hB : B ≤ w.heap.size) (ht : U tot) (hu : U un) :
    Calls Try.prog 26 #[smV tot A n cA un R m cR] w (Encd w tot un l (Cmp.rowsL F m)) := by
  obtain ⟨w2, hw2⟩ : ∃ w2, w2 = w.alloc (.cells (smC tot A n cA un R m cR) 45) := ⟨_, rfl⟩
  have k2 : Keeps (fun _ => False) w w2 := by rw [hw2]; exact (Keeps.refl _ _).alloc _
  have b3 : Blk w2 w.heap.size 45 (smC tot A n cA un R m cR) := by rw [hw2]; exact Blk.new _ _ _
  have HH := hide (h.kept k2 (fun _ _ h => h))
  have s0 : w2.cell? ⟨w.heap.size, 0, none⟩ = some (.int .u64 tot) := b3.cell 0
  have s1 : w2.cell? ⟨w.heap.size, 1, none⟩ = some (.slice A n cA) := b3.cell 1
  have s2 : w2.cell? ⟨w.heap.size, 2, none⟩ = some (.int .u64 un) := b3.cell 2
  have s3 : w2.cell? ⟨w.heap.size, 3, none⟩ = some (.slice R m cR) := b3.cell 3
  have B3 := hide b3
  have K2 := hide k2
  have HW2 := hide hw2
  have HLN := hide h.len
  have hml : (Cmp.rowsL F m).length = m := Cmp.rowsL_len F m
  have HML := hide hml
  have hn1 := h.n1
  have hm1 := h.m1
  clear hw2 k2 b3 h hml
  by_cases h1 : 96 < n ∨ 4 < m
  · have HV : Hid (encErr l (Cmp.rowsL F m) = 7) := hide (by unfold encErr; rw [HLN.out, HML.out, if_pos h1])
    rcases e1 : decide ((96 : Int) < (n : Int)) with _ | _
    · have e2 : decide ((4 : Int) < (m : Int)) = true := by simp at e1 ⊢; omega
      have e2' : (4 : Int) < (m : Int) := by simp at e2; omega
      clear h1 e2
      go_enter Try.func26, Try.ntmps26
      go_upto_region 1 with fail
      rw [← HW2.out]
      clear HW2
      generalize hgs : w.heap.size = gs at *
      go_wp2_with fail
      go_ret2
      exact ⟨none, 0, 0, by rw [HV.out]; rfl, by rw [HV.out]; rfl, by omega, by omega, by rw [HV.out]; exact Rd.zero rfl, K2.out⟩
    · clear h1
      go_enter Try.func26, Try.ntmps26
      go_upto_region 1 with fail
      rw [← HW2.out]
      clear HW2
      generalize hgs : w.heap.size = gs at *
      go_wp2_with fail
      go_ret2
      exact ⟨none, 0, 0, by rw [HV.out]; rfl, by rw [HV.out]; rfl, by omega, by omega, by rw [HV.out]; exact Rd.zero rfl, K2.out⟩
  have hn96 : n ≤ 96 := by omega
  have hm4 : m ≤ 4 := by omega
  have HE0 : Hid (encErr l (Cmp.rowsL F m) = if (Cmp.rowsL F m).any (fun r => decide (256 < r.length)) = true then 7 else if l.any (fun x => decide (255 < x.key.size)) = true then 4 else 0) := hide (by unfold encErr; rw [HLN.out, HML.out, if_neg h1])
  have e1 : ¬ ((96 : Int) < (n : Int)) := by omega
  have e2 : ¬ ((4 : Int) < (m : Int)) := by omega
  have HLn : Hid (∀ i, i < m → (F i).2.2.2.length = (F i).2.1) := hide (fun i hi => by have := (HH.out.rrd i hi).1.1; simpa using this)
  clear h1
  go_enter Try.func26, Try.ntmps26
  go_upto_region 1 with fail
  rw [← HW2.out]
  clear HW2
  generalize hgs : w.heap.size = gs at *
  go_wp2_with fail
  trace "LOOP0"
  go_loopw [26] (fun iv wr => ∃ i : Nat, i ≤ m ∧ iv = .int .i64 i ∧ Hid (∀ j, j < i → (F j).2.1 ≤ 256) ∧ Hid (Keeps (fun _ => False) w2 wr)) (fun iv _ => m - (intOf iv).toNat)
  case atStart => exact ⟨0, by omega, rfl, hide (fun j h => by omega), hide (Keeps.refl _ _)⟩
  case round =>
    obtain ⟨i, hi, rfl, HJ, KR⟩ := hrel
    by_cases hlt : i < m
    · have HLT : Hid (i + 1 ≤ m) := hlt
      obtain ⟨b, off, rfl, hbB, hc⟩ := (HH.out.rows.kept KR.out (fun _ _ h => h)).2 (by omega)
      have c0 := hc i (.slice (F i).1 (F i).2.1 (F i).2.2.1) (by simp [hlt])
      have hiI : (i : Int) < (m : Int) := by omega
      have hi0 : (0 : Int) ≤ (i : Int) := by omega
      obtain ⟨rl, hrl⟩ : ∃ rl, rl = (F i).2.1 := ⟨_, rfl⟩
      rw [← hrl] at c0
      have HRL := hide hrl
      have HI := hide hlt
      clear hc hrl
      by_cases hs : rl ≤ 256
      · have e4 : ¬ ((256 : Int) < (rl : Int)) := by omega
        have HS := hide hs
        clear hs
        go_wp2_with fail
        go_roundw
        case rel =>
          refine ⟨i + 1, HLT.out, by go_num, hide (fun j hj => ?_), KR⟩
          rcases Nat.lt_or_ge j i with h | h
          · exact HJ.out j h
          · obtain rfl : j = i := by omega
            rw [← HRL.out]; exact HS.out
        case measure => have := HLT.out; simp [intOf]; omega
      · have e4 : (256 : Int) < (rl : Int) := by omega
        have HV : Hid (encErr l (Cmp.rowsL F m) = 7) := hide (by rw [HE0.out, if_pos ((rowsL_any F m _).2 ⟨i, HI.out, by rw [HLn.out i HI.out, ← HRL.out]; simp; omega⟩)])
        clear hs
        go_wp2_with fail
        go_ret2
        exact ⟨none, 0, 0, by rw [HV.out]; rfl, by rw [HV.out]; rfl, by omega, by omega, by rw [HV.out]; exact Rd.zero rfl, K2.out.trans KR.out⟩
    · obtain rfl : i = m := by omega
      have HE1 : Hid (encErr l (Cmp.rowsL F i) = if l.any (fun x => decide (255 < x.key.size)) = true then 4 else 0) := hide (by
        rw [HE0.out, if_neg]
        intro he
        obtain ⟨j, hj, hp⟩ := (rowsL_any F i _).1 he
        rw [HLn.out j hj] at hp
        have := HJ.out j hj
        simp at hp; omega)
      have B3r := hide (B3.out.kept KR.out (fun h => h))
      have t0 : wr.cell? ⟨gs, 0, none⟩ = some (.int .u64 tot) := B3r.out.cell 0
      have HHr := hide (HH.out.kept KR.out (fun _ _ h => h))
      have KX := hide (K2.out.trans KR.out)
      obtain ⟨wx, rfl⟩ : ∃ wx : World, wx = wr := ⟨_, rfl⟩
      have hBx : B ≤ wx.heap.size := by have := KX.out.size; omega
      clear HE0 KR HH B3 K2
      go_wp2_with fail
      trace "A1"
      refine (Varint.append_any [] none 0 0 0 wx (Rd.zero rfl) (Nat.zero_le _) (by omega) tot ht.1 ht.2).mono ?_
      rintro e w5 ⟨A5, n5, c5, hn5, rfl, o5, k5⟩
      rw [List.nil_append] at o5 hn5
      have R5 := hide (o5.rd (by omega))
      have K5 := hide k5
      have l5 : n5 ≤ 10 := by have := (enc_len tot.toNat).2; omega
      have t2 : w5.cell? ⟨gs, 2, none⟩ = some (.int .u64 un) := (B3r.out.kept k5 (fun h => h)).cell 2
      clear o5 k5 hn5 t0
      go_wp2_with fail
      trace "A2"
      refine (Varint.append_any (enc tot.toNat) A5 n5 c5 _ w5 R5.out (Nat.le_refl _) (by omega) un hu.1 hu.2).mono ?_
      rintro e w6 ⟨A6, n6, c6, hn6, rfl, o6, k6⟩
      have R6 := hide (o6.rd (by omega))
      have K6 := hide (K5.out.trans k6)
      have l6 : n6 ≤ 20 := by have h1 := (enc_len tot.toNat).2; have h2 := (enc_len un.toNat).2; rw [hn6, List.length_append]; omega
      have t1 : w6.cell? ⟨gs, 1, none⟩ = some (.slice A n cA) := (B3r.out.kept K6.out (fun h => h)).cell 1
      have ew : IntKind.u64.wrap (n : Int) = n := by rw [IntKind.wrap_u64]; omega
      clear o6 k6 hn6 t2 R5 K5 l5
      go_wp2_with fail
      trace "A3"
      refine (Varint.append_any (enc tot.toNat ++ enc un.toNat) A6 n6 c6 _ w6 R6.out (Nat.le_refl _) (by omega) (n : Int) (by omega) (by omega)).mono ?_
      rintro e w7 ⟨A7, n7, c7, hn7, rfl, o7, k7⟩
      rw [Int.toNat_natCast] at o7 hn7
      have K7 := hide (K6.out.trans k7)
      have l7 : (enc tot.toNat ++ enc un.toNat ++ enc n).length ≤ 30 := by have h1 := (enc_len tot.toNat).2; have h2 := (enc_len un.toNat).2; have h3 := (enc_len n).2; simp only [List.length_append]; omega
      have BS7 := hide (show BSt w7 (enc tot.toNat ++ enc un.toNat ++ enc n) (.slice A7 n7 c7) w7 from ⟨A7, n7, c7, rfl, hn7, o7.le, o7.rd (by omega), Keeps.refl _ _⟩)
      have t1 : w7.cell? ⟨gs, 1, none⟩ = some (.slice A n cA) := (B3r.out.kept K7.out (fun h => h)).cell 1
      have HH7 := hide (HHr.out.kept K7.out (fun _ _ h => h))
      clear o7 k7 hn7 R6 K6 l6
      go_wp2_with fail
      trace "LOOPE"
      have hB7 : B ≤ w7.heap.size := by have := K7.out.size; omega
      refine Code.wp_mono ?_ (sloopE w7 B A n cA l HH7.out.ents hB7 (fun x hx => ⟨(HH7.out.num x hx).1, (HH7.out.num x hx).2.1⟩) hn96 (enc tot.toNat ++ enc un.toNat ++ enc n) _ BS7.out (by omega) _ _ _ _ _ _ _ _ _ _ _ _ _ _ _ _ _ _ _ _ _ _ _ _ _ _ _ _ _ _ _ _ _ _ _ _ _ _ _ _ _ _ _ _ _ _ _ _ _ _ _ _ _ _ _ _ _ _ _ _ _ _ _ _ _ _ _ _ _ _ _ _ _ _ _ _ _ _ _ _ _ _ _ _ _ _ _ _ _ _ _ _ _ _ _ _ _ _ _ _ _)
      intro e a' w8 hex
      cases e <;> (first | exact hex.elim | skip)
      rotate_left
      · obtain ⟨⟨x, hx, hk⟩, k8, ⟨u6, u8, u50, u51, u52, u53, u54, u55, u56, u57, u58, u59, u60, u61, u62, u63, u64, u65, u66, u67, u68, u69, u70, u71, u72, u73, u74, rfl⟩⟩ := hex
        have HV : Hid (encErr l (Cmp.rowsL F i) = 4) := hide (by rw [HE1.out, if_pos (List.any_eq_true.2 ⟨x, hx, by simpa using hk⟩)])
        have K8 := hide (KX.out.trans (K7.out.trans k8))
        clear k8
        dsimp only
        go_wp2_with fail
        trace "RET"
        go_ret2
        exact ⟨none, 0, 0, by rw [HV.out]; rfl, by rw [HV.out]; rfl, by omega, by omega, by rw [HV.out]; exact Rd.zero rfl, K8.out⟩
      obtain ⟨rfl, hks, hle, v8, ⟨A8, n8, c8, rfl, hn8, hc8, r8, k8⟩, ⟨u2, u3, u8, u50, u51, u52, u53, u54, u55, u56, u57, u58, u59, u60, u61, u62, u63, u64, u65, u66, u67, u68, u69, u70, u71, u72, u73, u74, rfl⟩⟩ := hex
      have HV : Hid (encErr l (Cmp.rowsL F i) = 0) := hide (by
        rw [HE1.out, if_neg]
        intro he
        obtain ⟨x, hx, hp⟩ := List.any_eq_true.1 he
        have := hks x hx
        simp at hp; omega)
      have K8 := hide (K7.out.trans k8)
      have R8 := hide r8
      have t3 : w8.cell? ⟨gs, 3, none⟩ = some (.slice R i cR) := (B3r.out.kept K8.out (fun h => h)).cell 3
      have ew2 : IntKind.u64.wrap (i : Int) = i := by rw [IntKind.wrap_u64]; omega
      obtain ⟨L8, hL8⟩ : ∃ L8, L8 = enc tot.toNat ++ enc un.toNat ++ enc n ++ l.flatMap encEnt := ⟨_, rfl⟩
      rw [← hL8] at hle R8 hn8
      have HL8 := hide hL8
      have hl8 : L8.length ≤ 28840 + 1000 := by omega
      have hn8b : n8 ≤ 30000 := by omega
      clear hc8 hks hle r8 k8 K7 HH7 BS7 l7 t1 ew hL8 HE1 hn8
      dsimp only
      go_wp2_with fail
      trace "A4"
      refine (Varint.append_any L8 A8 n8 c8 _ w8 R8.out (Nat.le_refl _) (by omega) (i : Int) (by omega) (by omega)).mono ?_
      rintro e w9 ⟨A9, n9, c9, hn9, rfl, o9, k9⟩
      rw [Int.toNat_natCast] at o9 hn9
      have K9 := hide (K8.out.trans k9)
      have l9 : (L8 ++ enc i).length ≤ 30000 := by have h1 := (enc_len i).2; simp only [List.length_append]; omega
      have BS9 := hide (show BSt w9 (L8 ++ enc i) (.slice A9 n9 c9) w9 from ⟨A9, n9, c9, rfl, hn9, o9.le, o9.rd (by omega), Keeps.refl _ _⟩)
      have t3 : w9.cell? ⟨gs, 3, none⟩ = some (.slice R i cR) := (B3r.out.kept K9.out (fun h => h)).cell 3
      have HH9 := hide (HHr.out.kept K9.out (fun _ _ h => h))
      clear o9 k9 hn9 R8 K8
      go_wp2_with fail
      trace "LOOPR"
      refine Code.wp_mono ?_ (sloopR w9 B R i cR F HH9.out.rows HH9.out.rrd HJ.out hm4 (L8 ++ enc i) _ BS9.out (by omega) _ _ _ _ _ _ _ _ _ _ _ _ _ _ _ _ _ _ _ _ _ _ _ _ _ _ _ _ _ _ _ _ _ _ _ _ _ _ _ _ _ _ _ _ _ _ _ _ _ _ _ _ _ _ _ _ _ _ _ _ _ _ _ _ _ _ _ _ _ _ _ _ _ _ _ _ _ _ _ _ _ _ _ _ _ _ _ _ _ _ _ _ _ _ _ _ _ _ _ _ _)
      intro e a' w10 hex
      cases e <;> (first | exact hex.elim | skip)
      obtain ⟨rfl, hle, v10, ⟨A10, n10, c10, rfl, hn10, hc10, r10, k10⟩, ⟨x10, x12, x84, x85, x86, x87, x88, x89, x90, x91, x92, x93, x94, x95, x96, x97, x98, x99, x100, x101, x102, x103, rfl⟩⟩ := hex
      have K10 := hide (KX.out.trans (K9.out.trans k10))
      have R10 := hide r10
      have hn10' := hide hn10
      have HC10 := hide hc10
      have hl10 : n10 ≤ 100000 := by omega
      clear r10 k10 hle hn10 hc10
      dsimp only
      go_wp2_with fail
      trace "DONE"
      go_ret2
      have hE : L8 ++ enc i ++ (Cmp.rowsL F i).flatMap encRow = encAll tot un l (Cmp.rowsL F i) := by rw [HL8.out]; unfold encAll; rw [HLN.out, HML.out]
      refine ⟨A10, n10, c10, by rw [HV.out]; rfl, by rw [HV.out, if_pos rfl, ← hE]; exact hn10'.out, hl10, HC10.out, by rw [HV.out, if_pos rfl, ← hE]; exact R10.out, K10.out⟩
set_option maxRecDepth 100000 in
set_option maxHeartbeats 1000000 in
theorem rencode_any (w : World) (B : Nat) (tot un : Int) (A R : Option Addr) (n cA m cR : Nat) (l : List Ln) (F : RowsF) (h : SmIn w B A n l R m F) (hB : B ≤ w.heap.size) (ht : U tot) (hu : U un) :
    Calls Try.prog 27 #[smV tot A n cA un R m cR] w (Encd w tot un l (Cmp.rowsL F m)) := by
  obtain ⟨w2, hw2⟩ : ∃ w2, w2 = w.alloc (.cells (smC tot A n cA un R m cR) 45) := ⟨_, rfl⟩
  have k2 : Keeps (fun _ => False) w w2 := by rw [hw2]; exact (Keeps.refl _ _).alloc _
  have b3 : Blk w2 w.heap.size 45 (smC tot A n cA un R m cR) := by rw [hw2]; exact Blk.new _ _ _
  have HH := hide (h.kept k2 (fun _ _ h => h))
  have s0 : w2.cell? ⟨w.heap.size, 0, none⟩ = some (.int .u64 tot) := b3.cell 0
  have s1 : w2.cell? ⟨w.heap.size, 1, none⟩ = some (.slice A n cA) := b3.cell 1
  have s2 : w2.cell? ⟨w.heap.size, 2, none⟩ = some (.int .u64 un) := b3.cell 2
  have s3 : w2.cell? ⟨w.heap.size, 3, none⟩ = some (.slice R m cR) := b3.cell 3
  have B3 := hide b3
  have K2 := hide k2
  have HW2 := hide hw2
  have HLN := hide h.len
  have hml : (Cmp.rowsL F m).length = m := Cmp.rowsL_len F m
  have HML := hide hml
  have hn1 := h.n1
  have hm1 := h.m1
  clear hw2 k2 b3 h hml
  by_cases h1 : 96 < n ∨ 4 < m
  · have HV : Hid (encErr l (Cmp.rowsL F m) = 7) := hide (by unfold encErr; rw [HLN.out, HML.out, if_pos h1])
    rcases e1 : decide ((96 : Int) < (n : Int)) with _ | _
    · have e2 : decide ((4 : Int) < (m : Int)) = true := by simp at e1 ⊢; omega
      have e2' : (4 : Int) < (m : Int) := by simp at e2; omega
      clear h1 e2
      go_enter Try.func27, Try.ntmps27
      go_upto_region 1 with fail
      rw [← HW2.out]
      clear HW2
      generalize hgs : w.heap.size = gs at *
      go_wp2_with fail
      go_ret2
      exact ⟨none, 0, 0, by rw [HV.out]; rfl, by rw [HV.out]; rfl, by omega, by omega, by rw [HV.out]; exact Rd.zero rfl, K2.out⟩
    · clear h1
      go_enter Try.func27, Try.ntmps27
      go_upto_region 1 with fail
      rw [← HW2.out]
      clear HW2
      generalize hgs : w.heap.size = gs at *
      go_wp2_with fail
      go_ret2
      exact ⟨none, 0, 0, by rw [HV.out]; rfl, by rw [HV.out]; rfl, by omega, by omega, by rw [HV.out]; exact Rd.zero rfl, K2.out⟩
  have hn96 : n ≤ 96 := by omega
  have hm4 : m ≤ 4 := by omega
  have HE0 : Hid (encErr l (Cmp.rowsL F m) = if (Cmp.rowsL F m).any (fun r => decide (256 < r.length)) = true then 7 else if l.any (fun x => decide (255 < x.key.size)) = true then 4 else 0) := hide (by unfold encErr; rw [HLN.out, HML.out, if_neg h1])
  have e1 : ¬ ((96 : Int) < (n : Int)) := by omega
  have e2 : ¬ ((4 : Int) < (m : Int)) := by omega
  have HLn : Hid (∀ i, i < m → (F i).2.2.2.length = (F i).2.1) := hide (fun i hi => by have := (HH.out.rrd i hi).1.1; simpa using this)
  clear h1
  go_enter Try.func27, Try.ntmps27
  go_upto_region 1 with fail
  rw [← HW2.out]
  clear HW2
  generalize hgs : w.heap.size = gs at *
  go_wp2_with fail
  trace "LOOP0"
  go_loopw [26] (fun iv wr => ∃ i : Nat, i ≤ m ∧ iv = .int .i64 i ∧ Hid (∀ j, j < i → (F j).2.1 ≤ 256) ∧ Hid (Keeps (fun _ => False) w2 wr)) (fun iv _ => m - (intOf iv).toNat)
  case atStart => exact ⟨0, by omega, rfl, hide (fun j h => by omega), hide (Keeps.refl _ _)⟩
  case round =>
    obtain ⟨i, hi, rfl, HJ, KR⟩ := hrel
    by_cases hlt : i < m
    · have HLT : Hid (i + 1 ≤ m) := hlt
      obtain ⟨b, off, rfl, hbB, hc⟩ := (HH.out.rows.kept KR.out (fun _ _ h => h)).2 (by omega)
      have c0 := hc i (.slice (F i).1 (F i).2.1 (F i).2.2.1) (by simp [hlt])
      have hiI : (i : Int) < (m : Int) := by omega
      have hi0 : (0 : Int) ≤ (i : Int) := by omega
      obtain ⟨rl, hrl⟩ : ∃ rl, rl = (F i).2.1 := ⟨_, rfl⟩
      rw [← hrl] at c0
      have HRL := hide hrl
      have HI := hide hlt
      clear hc hrl
      by_cases hs : rl ≤ 256
      · have e4 : ¬ ((256 : Int) < (rl : Int)) := by omega
        have HS := hide hs
        clear hs
        go_wp2_with fail
        go_roundw
        case rel =>
          refine ⟨i + 1, HLT.out, by go_num, hide (fun j hj => ?_), KR⟩
          rcases Nat.lt_or_ge j i with h | h
          · exact HJ.out j h
          · obtain rfl : j = i := by omega
            rw [← HRL.out]; exact HS.out
        case measure => have := HLT.out; simp [intOf]; omega
      · have e4 : (256 : Int) < (rl : Int) := by omega
        have HV : Hid (encErr l (Cmp.rowsL F m) = 7) := hide (by rw [HE0.out, if_pos ((rowsL_any F m _).2 ⟨i, HI.out, by rw [HLn.out i HI.out, ← HRL.out]; simp; omega⟩)])
        clear hs
        go_wp2_with fail
        go_ret2
        exact ⟨none, 0, 0, by rw [HV.out]; rfl, by rw [HV.out]; rfl, by omega, by omega, by rw [HV.out]; exact Rd.zero rfl, K2.out.trans KR.out⟩
    · obtain rfl : i = m := by omega
      have HE1 : Hid (encErr l (Cmp.rowsL F i) = if l.any (fun x => decide (255 < x.key.size)) = true then 4 else 0) := hide (by
        rw [HE0.out, if_neg]
        intro he
        obtain ⟨j, hj, hp⟩ := (rowsL_any F i _).1 he
        rw [HLn.out j hj] at hp
        have := HJ.out j hj
        simp at hp; omega)
      have B3r := hide (B3.out.kept KR.out (fun h => h))
      have t0 : wr.cell? ⟨gs, 0, none⟩ = some (.int .u64 tot) := B3r.out.cell 0
      have HHr := hide (HH.out.kept KR.out (fun _ _ h => h))
      have KX := hide (K2.out.trans KR.out)
      obtain ⟨wx, rfl⟩ : ∃ wx : World, wx = wr := ⟨_, rfl⟩
      have hBx : B ≤ wx.heap.size := by have := KX.out.size; omega
      clear HE0 KR HH B3 K2
      go_wp2_with fail
      trace "A1"
      refine (Varint.rappend_any [] none 0 0 0 wx (Rd.zero rfl) (Nat.zero_le _) (by omega) tot ht.1 ht.2).mono ?_
      rintro e w5 ⟨A5, n5, c5, hn5, rfl, o5, k5⟩
      rw [List.nil_append] at o5 hn5
      have R5 := hide (o5.rd (by omega))
      have K5 := hide k5
      have l5 : n5 ≤ 10 := by have := (enc_len tot.toNat).2; omega
      have t2 : w5.cell? ⟨gs, 2, none⟩ = some (.int .u64 un) := (B3r.out.kept k5 (fun h => h)).cell 2
      clear o5 k5 hn5 t0
      go_wp2_with fail
      trace "A2"
      refine (Varint.rappend_any (enc tot.toNat) A5 n5 c5 _ w5 R5.out (Nat.le_refl _) (by omega) un hu.1 hu.2).mono ?_
      rintro e w6 ⟨A6, n6, c6, hn6, rfl, o6, k6⟩
      have R6 := hide (o6.rd (by omega))
      have K6 := hide (K5.out.trans k6)
      have l6 : n6 ≤ 20 := by have h1 := (enc_len tot.toNat).2; have h2 := (enc_len un.toNat).2; rw [hn6, List.length_append]; omega
      have t1 : w6.cell? ⟨gs, 1, none⟩ = some (.slice A n cA) := (B3r.out.kept K6.out (fun h => h)).cell 1
      have ew : IntKind.u64.wrap (n : Int) = n := by rw [IntKind.wrap_u64]; omega
      clear o6 k6 hn6 t2 R5 K5 l5
      go_wp2_with fail
      trace "A3"
      refine (Varint.rappend_any (enc tot.toNat ++ enc un.toNat) A6 n6 c6 _ w6 R6.out (Nat.le_refl _) (by omega) (n : Int) (by omega) (by omega)).mono ?_
      rintro e w7 ⟨A7, n7, c7, hn7, rfl, o7, k7⟩
      rw [Int.toNat_natCast] at o7 hn7
      have K7 := hide (K6.out.trans k7)
      have l7 : (enc tot.toNat ++ enc un.toNat ++ enc n).length ≤ 30 := by have h1 := (enc_len tot.toNat).2; have h2 := (enc_len un.toNat).2; have h3 := (enc_len n).2; simp only [List.length_append]; omega
      have BS7 := hide (show BSt w7 (enc tot.toNat ++ enc un.toNat ++ enc n) (.slice A7 n7 c7) w7 from ⟨A7, n7, c7, rfl, hn7, o7.le, o7.rd (by omega), Keeps.refl _ _⟩)
      have t1 : w7.cell? ⟨gs, 1, none⟩ = some (.slice A n cA) := (B3r.out.kept K7.out (fun h => h)).cell 1
      have HH7 := hide (HHr.out.kept K7.out (fun _ _ h => h))
      clear o7 k7 hn7 R6 K6 l6
      go_wp2_with fail
      trace "LOOPE"
      have hB7 : B ≤ w7.heap.size := by have := K7.out.size; omega
      refine Code.wp_mono ?_ (rloopE w7 B A n cA l HH7.out.ents hB7 (fun x hx => ⟨(HH7.out.num x hx).1, (HH7.out.num x hx).2.1⟩) hn96 (enc tot.toNat ++ enc un.toNat ++ enc n) _ BS7.out (by omega) _ _ _ _ _ _ _ _ _ _ _ _ _ _ _ _ _ _ _ _ _ _ _ _ _ _ _ _ _ _ _ _ _ _ _ _ _ _ _ _ _ _ _ _ _ _ _ _ _ _ _ _ _ _ _ _ _ _ _ _ _ _ _ _ _ _ _ _ _ _ _ _ _ _ _ _ _ _ _ _ _ _ _ _ _ _ _ _ _ _ _ _ _ _ _ _ _ _ _ _ _)
      intro e a' w8 hex
      cases e <;> (first | exact hex.elim | skip)
      rotate_left
      · obtain ⟨⟨x, hx, hk⟩, k8, ⟨u6, u8, u50, u51, u52, u53, u54, u55, u56, u57, u58, u59, u60, u61, u62, u63, u64, u65, u66, u67, u68, u69, u70, u71, u72, u73, u74, rfl⟩⟩ := hex
        have HV : Hid (encErr l (Cmp.rowsL F i) = 4) := hide (by rw [HE1.out, if_pos (List.any_eq_true.2 ⟨x, hx, by simpa using hk⟩)])
        have K8 := hide (KX.out.trans (K7.out.trans k8))
        clear k8
        dsimp only
        go_wp2_with fail
        trace "RET"
        go_ret2
        exact ⟨none, 0, 0, by rw [HV.out]; rfl, by rw [HV.out]; rfl, by omega, by omega, by rw [HV.out]; exact Rd.zero rfl, K8.out⟩
      obtain ⟨rfl, hks, hle, v8, ⟨A8, n8, c8, rfl, hn8, hc8, r8, k8⟩, ⟨u2, u3, u8, u50, u51, u52, u53, u54, u55, u56, u57, u58, u59, u60, u61, u62, u63, u64, u65, u66, u67, u68, u69, u70, u71, u72, u73, u74, rfl⟩⟩ := hex
      have HV : Hid (encErr l (Cmp.rowsL F i) = 0) := hide (by
        rw [HE1.out, if_neg]
        intro he
        obtain ⟨x, hx, hp⟩ := List.any_eq_true.1 he
        have := hks x hx
        simp at hp; omega)
      have K8 := hide (K7.out.trans k8)
      have R8 := hide r8
      have t3 : w8.cell? ⟨gs, 3, none⟩ = some (.slice R i cR) := (B3r.out.kept K8.out (fun h => h)).cell 3
      have ew2 : IntKind.u64.wrap (i : Int) = i := by rw [IntKind.wrap_u64]; omega
      obtain ⟨L8, hL8⟩ : ∃ L8, L8 = enc tot.toNat ++ enc un.toNat ++ enc n ++ l.flatMap encEnt := ⟨_, rfl⟩
      rw [← hL8] at hle R8 hn8
      have HL8 := hide hL8
      have hl8 : L8.length ≤ 28840 + 1000 := by omega
      have hn8b : n8 ≤ 30000 := by omega
      clear hc8 hks hle r8 k8 K7 HH7 BS7 l7 t1 ew hL8 HE1 hn8
      dsimp only
      go_wp2_with fail
      trace "A4"
      refine (Varint.rappend_any L8 A8 n8 c8 _ w8 R8.out (Nat.le_refl _) (by omega) (i : Int) (by omega) (by omega)).mono ?_
      rintro e w9 ⟨A9, n9, c9, hn9, rfl, o9, k9⟩
      rw [Int.toNat_natCast] at o9 hn9
      have K9 := hide (K8.out.trans k9)
      have l9 : (L8 ++ enc i).length ≤ 30000 := by have h1 := (enc_len i).2; simp only [List.length_append]; omega
      have BS9 := hide (show BSt w9 (L8 ++ enc i) (.slice A9 n9 c9) w9 from ⟨A9, n9, c9, rfl, hn9, o9.le, o9.rd (by omega), Keeps.refl _ _⟩)
      have t3 : w9.cell? ⟨gs, 3, none⟩ = some (.slice R i cR) := (B3r.out.kept K9.out (fun h => h)).cell 3
      have HH9 := hide (HHr.out.kept K9.out (fun _ _ h => h))
      clear o9 k9 hn9 R8 K8
      go_wp2_with fail
      trace "LOOPR"
      refine Code.wp_mono ?_ (rloopR w9 B R i cR F HH9.out.rows HH9.out.rrd HJ.out hm4 (L8 ++ enc i) _ BS9.out (by omega) _ _ _ _ _ _ _ _ _ _ _ _ _ _ _ _ _ _ _ _ _ _ _ _ _ _ _ _ _ _ _ _ _ _ _ _ _ _ _ _ _ _ _ _ _ _ _ _ _ _ _ _ _ _ _ _ _ _ _ _ _ _ _ _ _ _ _ _ _ _ _ _ _ _ _ _ _ _ _ _ _ _ _ _ _ _ _ _ _ _ _ _ _ _ _ _ _ _ _ _ _)
      intro e a' w10 hex
      cases e <;> (first | exact hex.elim | skip)
      obtain ⟨rfl, hle, v10, ⟨A10, n10, c10, rfl, hn10, hc10, r10, k10⟩, ⟨x10, x12, x84, x85, x86, x87, x88, x89, x90, x91, x92, x93, x94, x95, x96, x97, x98, x99, x100, x101, x102, x103, rfl⟩⟩ := hex
      have K10 := hide (KX.out.trans (K9.out.trans k10))
      have R10 := hide r10
      have hn10' := hide hn10
      have HC10 := hide hc10
      have hl10 : n10 ≤ 100000 := by omega
      clear r10 k10 hle hn10 hc10
      dsimp only
      go_wp2_with fail
      trace "DONE"
      go_ret2
      have hE : L8 ++ enc i ++ (Cmp.rowsL F i).flatMap encRow = encAll tot un l (Cmp.rowsL F i) := by rw [HL8.out]; unfold encAll; rw [HLN.out, HML.out]
      refine ⟨A10, n10, c10, by rw [HV.out]; rfl, by rw [HV.out, if_pos rfl, ← hE]; exact hn10'.out, hl10, HC10.out, by rw [HV.out, if_pos rfl, ← hE]; exact R10.out, K10.out⟩
end Go.Proofs.Ytaiopdipldaimaa
