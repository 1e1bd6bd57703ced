/-
  Encode: the regions that draw, of the program and of the reference. No conditions beyond those of the statement.
-/
import Derived.Test.YtaiopdipldaimaaYh
import Derived.Test.YtaiopdipldaimaaVarintW
import Derived.OrdersHeld
set_option linter.unusedVariables false
set_option linter.unusedSimpArgs false
namespace Go.Proofs.Ytaiopdipldaimaa
open Go.RowKit Vp
namespace enc21
section
variable {P : Program}
theorem wp_run {o : Oper} {a : Act} {K : Act → World → Prop} {Q : Exit → Act → World → Prop} {w w' : World} {v s' x' : Value} (s x : Operand) (t t2 : TypeId)
    (ho : o.op = .call { callee := .builtin .append, args := #[s, x], argTypes := #[t, t2] }) (hs : a.eval s = s') (hx : a.eval x = x')
    (hrun : (Builtin.append_ #[t, t2] o.type #[s', x']).run P w = .ok v w') (h : K (a.put o.dst v) w') : o.wp P a w K Q := by
  unfold Oper.wp execOp
  simp only [ho, resolve, invoke, builtin, Sem.run_bind, Sem.run_pure, Result.andThen_ok, List.map_toArray, List.map_cons, List.map_nil, hs, hx, hrun]
  exact h
end
/-- 'append(b, s...)', s a string, in a region that draws its order -/
theorem step_app_text {ops : Array Oper} {o : Oper} {a : Act} {K : Act → World → Prop} {Q : Exit → Act → World → Prop} {F : Prop} (w : World) (hgd : o.guard = none) (s x : Operand)
    (ho : o.op = .call { callee := .builtin .append, args := #[s, x], argTypes := #[46, 9] })
    (base : Nat) {A : Option Addr} {n c : Nat} (l : List UInt8) (hs : a.eval s = .slice A n c) (hown : Own w base 5 1 A n c (l.map by8))
    (b : ByteArray) (hx : a.eval x = .string b) (hb : b.size ≤ 35184372088832) (hn : n ≤ 35184372088832) (hbase : base ≤ w.heap.size)
    (h : ∀ A' c' w', Own w' base 5 1 A' (n + b.size) c' ((l ++ b.data.toList).map by8) → Keeps (inB A) w w' → (∀ k, inB A' k → inB A k ∨ w.heap.size ≤ k) → K (a.put o.dst (.slice A' (n + b.size) c')) w') :
    if Region.wanted o (yielded ops a.tmps) = true then Oper.wp Try.prog o a w K Q else F := by
  have hw : Region.wanted o (yielded ops a.tmps) = true := by simp [Region.wanted, hgd]
  rw [if_pos hw]
  have hi : (Try.prog.info? 5).map (fun i => (i.zero, i.size, i.bytes)) = some (some (.int .u8 0), 1, 1) := by kernel_rfl
  obtain ⟨i, h1, h2, h3, h4⟩ := info_parts hi
  obtain ⟨A', c', w', hrun, hw⟩ := apps_run (P := Try.prog) w 46 9 o.type 5 i (.int .u8 0) b Try.underlying46 Try.underlying9 h1 h2 h3 rfl (by omega) A n c (l.map by8) (hown.base_le (Nat.zero_le _)) (by simp only [maxLen]; omega) (by rw [h4]; omega) (by rw [h4]; omega)
  obtain ⟨k1, k2, k3⟩ := own_of_ways hown hbase (by simp) hw
  rw [← List.map_append] at k1
  exact wp_run s x _ _ ho hs hx hrun (h A' c' w' k1 k2 k3)
def findReg (q : Nat) : Code → Option Code
  | .region id ops b => if id = q then some (.region id ops b) else none
  | .loop c => findReg q c
  | .seq a b => match findReg q a with
    | some c => some c
    | none => findReg q b
  | .block _ c => findReg q c
  | .scope c => findReg q c
  | .cond _ a b => match findReg q a with
    | some c => some c
    | none => findReg q b
  | _ => none
def NormPost (W : Act → World → Prop) : Exit → Act → World → Prop
  | .normal, a, w => W a w
  | _, _, _ => False
noncomputable def srg17 : Code := ((Try.f26.body.bind (findReg 17)).getD .skip)
noncomputable def srg18 : Code := ((Try.f26.body.bind (findReg 18)).getD .skip)
set_option maxRecDepth 1000000 in
set_option maxHeartbeats 4000000 in
theorem sreg17 (w1 : World) (L : List UInt8) (A : Option Addr) (n c gx : Nat) (k : ByteArray) (hr : Rd w1 w1.heap.size A 1 n (L.map by8)) (hn : n ≤ 10000000) (hk : k.size ≤ 255) (ck : w1.cell? ⟨gx, 0, none⟩ = some (.string k)) (hgx : gx < w1.heap.size) (s0 s1 s2 s3 s4 s5 s7 s9 s10 s11 s12 s13 s14 s15 s16 s17 s18 s19 s20 s21 s22 s23 s24 s25 s26 s27 s28 s29 s30 s31 s32 s33 s34 s35 s36 s37 s38 s39 s40 s41 s42 s43 s44 s45 s46 s47 s48 s49 s50 s51 s52 s53 s54 s55 s56 s57 s58 s59 s60 s61 s62 s63 s64 s65 s66 s67 s68 s69 s70 s71 s72 s73 s74 s75 s76 s77 s78 s79 s80 s81 s82 s83 s84 s85 s86 s87 s88 s89 s90 s91 s92 s93 s94 s95 s96 s97 s98 s99 s100 s101 s102 s103 s104 : Value) :
    Code.wp Try.prog srg17 (NormPost fun a' w' => ∃ A' n' c', (Own w' w1.heap.size 5 1 A' n' c' ((L ++ enc k.size ++ k.data.toList).map by8) ∧ Keeps (fun _ => False) w1 w') ∧ (∃ u58 u59 u60 u61 u62 u63 u64 u65 u66 : Value, a' = ⟨#[s0, s1, s2, s3, s4, s5, .slice A' n' c', s7, .pointer (some ⟨gx, 0, none⟩), s9, s10, s11, s12, s13, s14, s15, s16, s17, s18, s19, s20, s21, s22, s23, s24, s25, s26, s27, s28, s29, s30, s31, s32, s33, s34, s35, s36, s37, s38, s39, s40, s41, s42, s43, s44, s45, s46, s47, s48, s49, s50, s51, s52, s53, s54, s55, s56, s57, u58, u59, u60, u61, u62, u63, u64, u65, u66, s67, s68, s69, s70, s71, s72, s73, s74, s75, s76, s77, s78, s79, s80, s81, s82, s83, s84, s85, s86, s87, s88, s89, s90, s91, s92, s93, s94, s95, s96, s97, s98, s99, s100, s101, s102, s103, s104], []⟩)) ⟨#[s0, s1, s2, s3, s4, s5, .slice A n c, s7, .pointer (some ⟨gx, 0, none⟩), s9, s10, s11, s12, s13, s14, s15, s16, s17, s18, s19, s20, s21, s22, s23, s24, s25, s26, s27, s28, s29, s30, s31, s32, s33, s34, s35, s36, s37, s38, s39, s40, s41, s42, s43, s44, s45, s46, s47, s48, s49, s50, s51, s52, s53, s54, s55, s56, s57, s58, s59, s60, s61, s62, s63, s64, s65, s66, s67, s68, s69, s70, s71, s72, s73, s74, s75, s76, s77, s78, s79, s80, s81, s82, s83, s84, s85, s86, s87, s88, s89, s90, s91, s92, s93, s94, s95, s96, s97, s98, s99, s100, s101, s102, s103, s104], []⟩ w1 := by
  have HR := hide (show Rd w1.drew w1.heap.size A 1 n (L.map by8) from hr)
  have hln : L.length = n := by simpa using hr.1
  have CK := hide ck
  have kd : Keeps (fun _ => False) w1 w1.drew := (Keeps.refl _ _).drew
  have ew : IntKind.u64.wrap (k.size : Int) = k.size := by rw [IntKind.wrap_u64]; omega
  clear hr
  conv => arg 2; whnf
  dsimp only
  refine wp_region_held_drew (S := fun w' => w'.cell? ⟨gx, 0, none⟩ = some (.string k)) (by kernel_rfl) ck (fun hHeld => ?_)
  clear ck
  refine wpAnyH_take (i := 0) (v := ?_) rfl (by kernel_rfl) (by kernel_rfl) (by kernel_rfl) (fun _ _ _ h => h) (Or.inl ⟨by kernel_rfl, ?_⟩) (by assumption) ?_; rotate_left; focus (intro w hSw; (try dsimp only at hSw); go_simp; try (with_reducible rfl)); (try simp only [Act.put, List.setIfInBounds_toArray, List.set_cons_zero, List.set_cons_succ])
  refine wpAnyH_take (i := 1) (v := ?_) rfl (by kernel_rfl) (by kernel_rfl) (by kernel_rfl) (fun _ _ _ h => h) (Or.inl ⟨by kernel_rfl, ?_⟩) (by assumption) ?_; rotate_left; focus (intro w hSw; (try dsimp only at hSw); go_simp; try (with_reducible rfl)); (try simp only [Act.put, List.setIfInBounds_toArray, List.set_cons_zero, List.set_cons_succ])
  refine wpAnyH_take (i := 2) (v := ?_) rfl (by kernel_rfl) (by kernel_rfl) (by kernel_rfl) (fun _ _ _ h => h) (Or.inl ⟨by kernel_rfl, ?_⟩) (by assumption) ?_; rotate_left; focus (intro w hSw; (try dsimp only at hSw); go_simp; try (with_reducible rfl)); (try simp only [Act.put, List.setIfInBounds_toArray, List.set_cons_zero, List.set_cons_succ])
  refine wpAnyH_take (i := 3) (v := ?_) rfl (by kernel_rfl) (by kernel_rfl) (by kernel_rfl) (fun _ _ _ h => h) (Or.inl ⟨by kernel_rfl, ?_⟩) (by assumption) ?_; rotate_left; focus (intro w hSw; (try dsimp only at hSw); go_simp; try (with_reducible rfl)); (try simp only [Act.put, List.setIfInBounds_toArray, List.set_cons_zero, List.set_cons_succ])
  refine wpAnyH_take (i := 4) (v := ?_) rfl (by kernel_rfl) (by kernel_rfl) (by kernel_rfl) (fun _ _ _ h => h) (Or.inl ⟨by kernel_rfl, ?_⟩) (by assumption) ?_; rotate_left; focus (intro w hSw; (try dsimp only at hSw); go_simp; try (with_reducible rfl)); (try simp only [Act.put, List.setIfInBounds_toArray, List.set_cons_zero, List.set_cons_succ])
  refine wpAnyH_take (i := 6) (v := ?_) rfl (by kernel_rfl) (by kernel_rfl) (by kernel_rfl) (fun _ _ _ h => h) (Or.inl ⟨by kernel_rfl, ?_⟩) (by assumption) ?_; rotate_left; focus (intro w hSw; (try dsimp only at hSw); go_simp; try (with_reducible rfl)); (try simp only [Act.put, List.setIfInBounds_toArray, List.set_cons_zero, List.set_cons_succ])
  refine wpAnyH_take (i := 7) (v := ?_) rfl (by kernel_rfl) (by kernel_rfl) (by kernel_rfl) (fun _ _ _ h => h) (Or.inl ⟨by kernel_rfl, ?_⟩) (by assumption) ?_; rotate_left; focus (intro w hSw; (try dsimp only at hSw); go_simp; try (with_reducible rfl)); (try simp only [Act.put, List.setIfInBounds_toArray, List.set_cons_zero, List.set_cons_succ])
  refine wpAnyH_ready (rs := [5]) (by kernel_rfl) (by simp) ?_
  refine AllReadyH.cons rfl (fun K hK => ?_) AllReadyH.nil
  go_simp
  go_at_call 53
  refine (Varint.append_any L A n c w1.heap.size w1.drew HR.out (by simp) (by omega) (k.size : Int) (by omega) (by omega)).mono ?_
  rintro e w5 ⟨A5, n5, c5, hn5, rfl, o5, k5⟩
  rw [Int.toNat_natCast] at o5 hn5
  have K5 : Keeps (fun _ => False) w1 w5 := kd.trans k5
  have O5 := hide (show Own w5 w1.heap.size 5 1 A5 n5 c5 ((L ++ enc k.size).map by8) from o5)
  have hn5' : n5 ≤ n + 10 := by have := (enc_len k.size).2; rw [hn5, List.length_append]; omega
  clear o5 k5 hn5
  try go_wp2_with fail
  refine hK.out _ _ (K5.cell_some CK.out (fun h => h)) (fun hHeld => ?_)
  clear hK K
  (try simp only [Act.put, List.setIfInBounds_toArray, List.set_cons_zero, List.set_cons_succ])
  refine wpAnyH_ready (rs := [8]) (by kernel_rfl) (by simp) ?_
  refine AllReadyH.cons rfl (fun K hK => ?_) AllReadyH.nil
  refine step_app_text w5 (by rfl) (.tmp 63) (.tmp 65) (by rfl) w1.heap.size (A := A5) (n := n5) (c := c5) (L ++ enc k.size) (by simp [Act.eval, Act.put]) O5.out k (by simp [Act.eval, Act.put]) (by omega) (by omega) K5.size ?_
  intro A7 c7 w7 o7 k7 hA7
  have K7 : Keeps (fun _ => False) w1 w7 := K5.step k7 (fun b hb h => by have := (O5.out.inB h).1; omega)
  refine hK.out _ _ (K7.cell_some CK.out (fun h => h)) (fun hHeld => ?_)
  clear hK K
  (try simp only [Act.put, List.setIfInBounds_toArray, List.set_cons_zero, List.set_cons_succ])
  refine wpAnyH_take (i := 9) (v := ?_) rfl (by kernel_rfl) (by kernel_rfl) (by kernel_rfl) (fun _ _ _ h => h) (Or.inl ⟨by kernel_rfl, ?_⟩) (by assumption) ?_; rotate_left; focus (intro w hSw; (try dsimp only at hSw); go_simp; try (with_reducible rfl)); (try simp only [Act.put, List.setIfInBounds_toArray, List.set_cons_zero, List.set_cons_succ])
  refine wpAnyH_done (by kernel_rfl) ?_ _
  refine ⟨_, _, _, ⟨o7, K7⟩, ⟨_, _, _, _, _, _, _, _, _, rfl⟩⟩
set_option maxRecDepth 1000000 in
set_option maxHeartbeats 4000000 in
theorem sreg18 (w1 : World) (L : List UInt8) (A : Option Addr) (n c gx : Nat) (lo hi : Int) (hr : Rd w1 w1.heap.size A 1 n (L.map by8)) (hn : n ≤ 10000000) (hlo : 0 ≤ lo ∧ lo < 18446744073709551616) (hhi : 0 ≤ hi ∧ hi < 18446744073709551616) (c1 : w1.cell? ⟨gx, 1, none⟩ = some (.int .u64 lo)) (c2 : w1.cell? ⟨gx, 2, none⟩ = some (.int .u64 hi)) (s0 s1 s2 s3 s4 s5 s7 s9 s10 s11 s12 s13 s14 s15 s16 s17 s18 s19 s20 s21 s22 s23 s24 s25 s26 s27 s28 s29 s30 s31 s32 s33 s34 s35 s36 s37 s38 s39 s40 s41 s42 s43 s44 s45 s46 s47 s48 s49 s50 s51 s52 s53 s54 s55 s56 s57 s58 s59 s60 s61 s62 s63 s64 s65 s66 s67 s68 s69 s70 s71 s72 s73 s74 s75 s76 s77 s78 s79 s80 s81 s82 s83 s84 s85 s86 s87 s88 s89 s90 s91 s92 s93 s94 s95 s96 s97 s98 s99 s100 s101 s102 s103 s104 : Value) :
    Code.wp Try.prog srg18 (NormPost fun a' w' => ∃ A' n' c', (n' = (L ++ enc lo.toNat ++ enc hi.toNat).length ∧ Rd w' w'.heap.size A' 1 n' ((L ++ enc lo.toNat ++ enc hi.toNat).map by8) ∧ Keeps (fun _ => False) w1 w') ∧ (∃ u67 u68 u69 u70 u71 u72 u73 : Value, a' = ⟨#[s0, s1, s2, s3, s4, s5, .slice A' n' c', s7, .pointer (some ⟨gx, 0, none⟩), s9, s10, s11, s12, s13, s14, s15, s16, s17, s18, s19, s20, s21, s22, s23, s24, s25, s26, s27, s28, s29, s30, s31, s32, s33, s34, s35, s36, s37, s38, s39, s40, s41, s42, s43, s44, s45, s46, s47, s48, s49, s50, s51, s52, s53, s54, s55, s56, s57, s58, s59, s60, s61, s62, s63, s64, s65, s66, u67, u68, u69, u70, u71, u72, u73, s74, s75, s76, s77, s78, s79, s80, s81, s82, s83, s84, s85, s86, s87, s88, s89, s90, s91, s92, s93, s94, s95, s96, s97, s98, s99, s100, s101, s102, s103, s104], []⟩)) ⟨#[s0, s1, s2, s3, s4, s5, .slice A n c, s7, .pointer (some ⟨gx, 0, none⟩), s9, s10, s11, s12, s13, s14, s15, s16, s17, s18, s19, s20, s21, s22, s23, s24, s25, s26, s27, s28, s29, s30, s31, s32, s33, s34, s35, s36, s37, s38, s39, s40, s41, s42, s43, s44, s45, s46, s47, s48, s49, s50, s51, s52, s53, s54, s55, s56, s57, s58, s59, s60, s61, s62, s63, s64, s65, s66, s67, s68, s69, s70, s71, s72, s73, s74, s75, s76, s77, s78, s79, s80, s81, s82, s83, s84, s85, s86, s87, s88, s89, s90, s91, s92, s93, s94, s95, s96, s97, s98, s99, s100, s101, s102, s103, s104], []⟩ w1 := by
  have HR := hide (show Rd w1.drew w1.heap.size A 1 n (L.map by8) from hr)
  have hln : L.length = n := by simpa using hr.1
  have C1 := hide c1
  have C2 := hide c2
  have kd : Keeps (fun _ => False) w1 w1.drew := (Keeps.refl _ _).drew
  clear hr
  conv => arg 2; whnf
  dsimp only
  refine wp_region_held_drew (S := fun w' => w'.cell? ⟨gx, 1, none⟩ = some (.int .u64 lo) ∧ w'.cell? ⟨gx, 2, none⟩ = some (.int .u64 hi)) (by kernel_rfl) ⟨c1, c2⟩ (fun hHeld => ?_)
  clear c1 c2
  refine wpAnyH_take (i := 0) (v := ?_) rfl (by kernel_rfl) (by kernel_rfl) (by kernel_rfl) (fun _ _ _ h => h) (Or.inl ⟨by kernel_rfl, ?_⟩) (by assumption) ?_; rotate_left; focus (intro w hSw; (try dsimp only at hSw); go_simp; try (with_reducible rfl)); (try simp only [Act.put, List.setIfInBounds_toArray, List.set_cons_zero, List.set_cons_succ])
  refine wpAnyH_take (i := 1) (v := ?_) rfl (by kernel_rfl) (by kernel_rfl) (by kernel_rfl) (fun _ _ _ h => h) (Or.inl ⟨by kernel_rfl, ?_⟩) (by assumption) ?_; rotate_left; focus (intro w hSw; (try dsimp only at hSw); go_simp; try (with_reducible rfl)); (try simp only [Act.put, List.setIfInBounds_toArray, List.set_cons_zero, List.set_cons_succ])
  refine wpAnyH_take (i := 2) (v := ?_) rfl (by kernel_rfl) (by kernel_rfl) (by kernel_rfl) (fun _ _ _ h => h) (Or.inl ⟨by kernel_rfl, ?_⟩) (by assumption) ?_; rotate_left; focus (intro w hSw; (try dsimp only at hSw); go_simp; try (with_reducible rfl)); (try simp only [Act.put, List.setIfInBounds_toArray, List.set_cons_zero, List.set_cons_succ])
  refine wpAnyH_take (i := 4) (v := ?_) rfl (by kernel_rfl) (by kernel_rfl) (by kernel_rfl) (fun _ _ _ h => h) (Or.inl ⟨by kernel_rfl, ?_⟩) (by assumption) ?_; rotate_left; focus (intro w hSw; (try dsimp only at hSw); go_simp; try (with_reducible rfl)); (try simp only [Act.put, List.setIfInBounds_toArray, List.set_cons_zero, List.set_cons_succ])
  refine wpAnyH_take (i := 5) (v := ?_) rfl (by kernel_rfl) (by kernel_rfl) (by kernel_rfl) (fun _ _ _ h => h) (Or.inl ⟨by kernel_rfl, ?_⟩) (by assumption) ?_; rotate_left; focus (intro w hSw; (try dsimp only at hSw); go_simp; try (with_reducible rfl)); (try simp only [Act.put, List.setIfInBounds_toArray, List.set_cons_zero, List.set_cons_succ])
  refine wpAnyH_ready (rs := [3]) (by kernel_rfl) (by simp) ?_
  refine AllReadyH.cons rfl (fun K hK => ?_) AllReadyH.nil
  go_simp
  go_at_call 53
  refine (Varint.append_any L A n c w1.heap.size w1.drew HR.out (by simp) (by omega) lo hlo.1 hlo.2).mono ?_
  rintro e w5 ⟨A5, n5, c5, hn5, rfl, o5, k5⟩
  have K5 : Keeps (fun _ => False) w1 w5 := kd.trans k5
  have R5 := hide (o5.rd (by omega))
  have hn5' : n5 ≤ n + 10 := by have := (enc_len lo.toNat).2; rw [hn5, List.length_append]; omega
  clear o5 k5 hn5
  try go_wp2_with fail
  refine hK.out _ _ ⟨K5.cell_some C1.out (fun h => h), K5.cell_some C2.out (fun h => h)⟩ (fun hHeld => ?_)
  clear hK K
  (try simp only [Act.put, List.setIfInBounds_toArray, List.set_cons_zero, List.set_cons_succ])
  refine wpAnyH_ready (rs := [6]) (by kernel_rfl) (by simp) ?_
  refine AllReadyH.cons rfl (fun K hK => ?_) AllReadyH.nil
  go_simp
  go_at_call 53
  refine (Varint.append_any (L ++ enc lo.toNat) A5 n5 c5 _ w5 R5.out (Nat.le_refl _) (by omega) hi hhi.1 hhi.2).mono ?_
  rintro e w7 ⟨A7, n7, c7, hn7, rfl, o7, k7⟩
  have K7 : Keeps (fun _ => False) w1 w7 := K5.trans k7
  have R7 := hide (o7.rd (by omega))
  have HN7 := hide hn7
  clear o7 k7 hn7
  try go_wp2_with fail
  refine hK.out _ _ ⟨K7.cell_some C1.out (fun h => h), K7.cell_some C2.out (fun h => h)⟩ (fun hHeld => ?_)
  clear hK K
  (try simp only [Act.put, List.setIfInBounds_toArray, List.set_cons_zero, List.set_cons_succ])
  refine wpAnyH_take (i := 7) (v := ?_) rfl (by kernel_rfl) (by kernel_rfl) (by kernel_rfl) (fun _ _ _ h => h) (Or.inl ⟨by kernel_rfl, ?_⟩) (by assumption) ?_; rotate_left; focus (intro w hSw; (try dsimp only at hSw); go_simp; try (with_reducible rfl)); (try simp only [Act.put, List.setIfInBounds_toArray, List.set_cons_zero, List.set_cons_succ])
  refine wpAnyH_done (by kernel_rfl) ?_ _
  refine ⟨_, _, _, ⟨HN7.out, R7.out, K7⟩, ⟨_, _, _, _, _, _, _, rfl⟩⟩
noncomputable def rrg17 : Code := ((Try.f27.body.bind (findReg 17)).getD .skip)
noncomputable def rrg18 : Code := ((Try.f27.body.bind (findReg 18)).getD .skip)
set_option maxRecDepth 1000000 in
set_option maxHeartbeats 4000000 in
theorem rreg17 (w1 : World) (L : List UInt8) (A : Option Addr) (n c gx : Nat) (k : ByteArray) (hr : Rd w1 w1.heap.size A 1 n (L.map by8)) (hn : n ≤ 10000000) (hk : k.size ≤ 255) (ck : w1.cell? ⟨gx, 0, none⟩ = some (.string k)) (hgx : gx < w1.heap.size) (s0 s1 s2 s3 s4 s5 s7 s9 s10 s11 s12 s13 s14 s15 s16 s17 s18 s19 s20 s21 s22 s23 s24 s25 s26 s27 s28 s29 s30 s31 s32 s33 s34 s35 s36 s37 s38 s39 s40 s41 s42 s43 s44 s45 s46 s47 s48 s49 s50 s51 s52 s53 s54 s55 s56 s57 s58 s59 s60 s61 s62 s63 s64 s65 s66 s67 s68 s69 s70 s71 s72 s73 s74 s75 s76 s77 s78 s79 s80 s81 s82 s83 s84 s85 s86 s87 s88 s89 s90 s91 s92 s93 s94 s95 s96 s97 s98 s99 s100 s101 s102 s103 s104 : Value) :
    Code.wp Try.prog rrg17 (NormPost fun a' w' => ∃ A' n' c', (Own w' w1.heap.size 5 1 A' n' c' ((L ++ enc k.size ++ k.data.toList).map by8) ∧ Keeps (fun _ => False) w1 w') ∧ (∃ u58 u59 u60 u61 u62 u63 u64 u65 u66 : Value, a' = ⟨#[s0, s1, s2, s3, s4, s5, .slice A' n' c', s7, .pointer (some ⟨gx, 0, none⟩), s9, s10, s11, s12, s13, s14, s15, s16, s17, s18, s19, s20, s21, s22, s23, s24, s25, s26, s27, s28, s29, s30, s31, s32, s33, s34, s35, s36, s37, s38, s39, s40, s41, s42, s43, s44, s45, s46, s47, s48, s49, s50, s51, s52, s53, s54, s55, s56, s57, u58, u59, u60, u61, u62, u63, u64, u65, u66, s67, s68, s69, s70, s71, s72, s73, s74, s75, s76, s77, s78, s79, s80, s81, s82, s83, s84, s85, s86, s87, s88, s89, s90, s91, s92, s93, s94, s95, s96, s97, s98, s99, s100, s101, s102, s103, s104], []⟩)) ⟨#[s0, s1, s2, s3, s4, s5, .slice A n c, s7, .pointer (some ⟨gx, 0, none⟩), s9, s10, s11, s12, s13, s14, s15, s16, s17, s18, s19, s20, s21, s22, s23, s24, s25, s26, s27, s28, s29, s30, s31, s32, s33, s34, s35, s36, s37, s38, s39, s40, s41, s42, s43, s44, s45, s46, s47, s48, s49, s50, s51, s52, s53, s54, s55, s56, s57, s58, s59, s60, s61, s62, s63, s64, s65, s66, s67, s68, s69, s70, s71, s72, s73, s74, s75, s76, s77, s78, s79, s80, s81, s82, s83, s84, s85, s86, s87, s88, s89, s90, s91, s92, s93, s94, s95, s96, s97, s98, s99, s100, s101, s102, s103, s104], []⟩ w1 := by
  have HR := hide (show Rd w1.drew w1.heap.size A 1 n (L.map by8) from hr)
  have hln : L.length = n := by simpa using hr.1
  have CK := hide ck
  have kd : Keeps (fun _ => False) w1 w1.drew := (Keeps.refl _ _).drew
  have ew : IntKind.u64.wrap (k.size : Int) = k.size := by rw [IntKind.wrap_u64]; omega
  clear hr
  conv => arg 2; whnf
  dsimp only
  refine wp_region_held_drew (S := fun w' => w'.cell? ⟨gx, 0, none⟩ = some (.string k)) (by kernel_rfl) ck (fun hHeld => ?_)
  clear ck
  refine wpAnyH_take (i := 0) (v := ?_) rfl (by kernel_rfl) (by kernel_rfl) (by kernel_rfl) (fun _ _ _ h => h) (Or.inl ⟨by kernel_rfl, ?_⟩) (by assumption) ?_; rotate_left; focus (intro w hSw; (try dsimp only at hSw); go_simp; try (with_reducible rfl)); (try simp only [Act.put, List.setIfInBounds_toArray, List.set_cons_zero, List.set_cons_succ])
  refine wpAnyH_take (i := 1) (v := ?_) rfl (by kernel_rfl) (by kernel_rfl) (by kernel_rfl) (fun _ _ _ h => h) (Or.inl ⟨by kernel_rfl, ?_⟩) (by assumption) ?_; rotate_left; focus (intro w hSw; (try dsimp only at hSw); go_simp; try (with_reducible rfl)); (try simp only [Act.put, List.setIfInBounds_toArray, List.set_cons_zero, List.set_cons_succ])
  refine wpAnyH_take (i := 2) (v := ?_) rfl (by kernel_rfl) (by kernel_rfl) (by kernel_rfl) (fun _ _ _ h => h) (Or.inl ⟨by kernel_rfl, ?_⟩) (by assumption) ?_; rotate_left; focus (intro w hSw; (try dsimp only at hSw); go_simp; try (with_reducible rfl)); (try simp only [Act.put, List.setIfInBounds_toArray, List.set_cons_zero, List.set_cons_succ])
  refine wpAnyH_take (i := 3) (v := ?_) rfl (by kernel_rfl) (by kernel_rfl) (by kernel_rfl) (fun _ _ _ h => h) (Or.inl ⟨by kernel_rfl, ?_⟩) (by assumption) ?_; rotate_left; focus (intro w hSw; (try dsimp only at hSw); go_simp; try (with_reducible rfl)); (try simp only [Act.put, List.setIfInBounds_toArray, List.set_cons_zero, List.set_cons_succ])
  refine wpAnyH_take (i := 4) (v := ?_) rfl (by kernel_rfl) (by kernel_rfl) (by kernel_rfl) (fun _ _ _ h => h) (Or.inl ⟨by kernel_rfl, ?_⟩) (by assumption) ?_; rotate_left; focus (intro w hSw; (try dsimp only at hSw); go_simp; try (with_reducible rfl)); (try simp only [Act.put, List.setIfInBounds_toArray, List.set_cons_zero, List.set_cons_succ])
  refine wpAnyH_take (i := 6) (v := ?_) rfl (by kernel_rfl) (by kernel_rfl) (by kernel_rfl) (fun _ _ _ h => h) (Or.inl ⟨by kernel_rfl, ?_⟩) (by assumption) ?_; rotate_left; focus (intro w hSw; (try dsimp only at hSw); go_simp; try (with_reducible rfl)); (try simp only [Act.put, List.setIfInBounds_toArray, List.set_cons_zero, List.set_cons_succ])
  refine wpAnyH_take (i := 7) (v := ?_) rfl (by kernel_rfl) (by kernel_rfl) (by kernel_rfl) (fun _ _ _ h => h) (Or.inl ⟨by kernel_rfl, ?_⟩) (by assumption) ?_; rotate_left; focus (intro w hSw; (try dsimp only at hSw); go_simp; try (with_reducible rfl)); (try simp only [Act.put, List.setIfInBounds_toArray, List.set_cons_zero, List.set_cons_succ])
  refine wpAnyH_ready (rs := [5]) (by kernel_rfl) (by simp) ?_
  refine AllReadyH.cons rfl (fun K hK => ?_) AllReadyH.nil
  go_simp
  go_at_call 54
  refine (Varint.rappend_any L A n c w1.heap.size w1.drew HR.out (by simp) (by omega) (k.size : Int) (by omega) (by omega)).mono ?_
  rintro e w5 ⟨A5, n5, c5, hn5, rfl, o5, k5⟩
  rw [Int.toNat_natCast] at o5 hn5
  have K5 : Keeps (fun _ => False) w1 w5 := kd.trans k5
  have O5 := hide (show Own w5 w1.heap.size 5 1 A5 n5 c5 ((L ++ enc k.size).map by8) from o5)
  have hn5' : n5 ≤ n + 10 := by have := (enc_len k.size).2; rw [hn5, List.length_append]; omega
  clear o5 k5 hn5
  try go_wp2_with fail
  refine hK.out _ _ (K5.cell_some CK.out (fun h => h)) (fun hHeld => ?_)
  clear hK K
  (try simp only [Act.put, List.setIfInBounds_toArray, List.set_cons_zero, List.set_cons_succ])
  refine wpAnyH_ready (rs := [8]) (by kernel_rfl) (by simp) ?_
  refine AllReadyH.cons rfl (fun K hK => ?_) AllReadyH.nil
  refine step_app_text w5 (by rfl) (.tmp 63) (.tmp 65) (by rfl) w1.heap.size (A := A5) (n := n5) (c := c5) (L ++ enc k.size) (by simp [Act.eval, Act.put]) O5.out k (by simp [Act.eval, Act.put]) (by omega) (by omega) K5.size ?_
  intro A7 c7 w7 o7 k7 hA7
  have K7 : Keeps (fun _ => False) w1 w7 := K5.step k7 (fun b hb h => by have := (O5.out.inB h).1; omega)
  refine hK.out _ _ (K7.cell_some CK.out (fun h => h)) (fun hHeld => ?_)
  clear hK K
  (try simp only [Act.put, List.setIfInBounds_toArray, List.set_cons_zero, List.set_cons_succ])
  refine wpAnyH_take (i := 9) (v := ?_) rfl (by kernel_rfl) (by kernel_rfl) (by kernel_rfl) (fun _ _ _ h => h) (Or.inl ⟨by kernel_rfl, ?_⟩) (by assumption) ?_; rotate_left; focus (intro w hSw; (try dsimp only at hSw); go_simp; try (with_reducible rfl)); (try simp only [Act.put, List.setIfInBounds_toArray, List.set_cons_zero, List.set_cons_succ])
  refine wpAnyH_done (by kernel_rfl) ?_ _
  refine ⟨_, _, _, ⟨o7, K7⟩, ⟨_, _, _, _, _, _, _, _, _, rfl⟩⟩
set_option maxRecDepth 1000000 in
set_option maxHeartbeats 4000000 in
theorem rreg18 (w1 : World) (L : List UInt8) (A : Option Addr) (n c gx : Nat) (lo hi : Int) (hr : Rd w1 w1.heap.size A 1 n (L.map by8)) (hn : n ≤ 10000000) (hlo : 0 ≤ lo ∧ lo < 18446744073709551616) (hhi : 0 ≤ hi ∧ hi < 18446744073709551616) (c1 : w1.cell? ⟨gx, 1, none⟩ = some (.int .u64 lo)) (c2 : w1.cell? ⟨gx, 2, none⟩ = some (.int .u64 hi)) (s0 s1 s2 s3 s4 s5 s7 s9 s10 s11 s12 s13 s14 s15 s16 s17 s18 s19 s20 s21 s22 s23 s24 s25 s26 s27 s28 s29 s30 s31 s32 s33 s34 s35 s36 s37 s38 s39 s40 s41 s42 s43 s44 s45 s46 s47 s48 s49 s50 s51 s52 s53 s54 s55 s56 s57 s58 s59 s60 s61 s62 s63 s64 s65 s66 s67 s68 s69 s70 s71 s72 s73 s74 s75 s76 s77 s78 s79 s80 s81 s82 s83 s84 s85 s86 s87 s88 s89 s90 s91 s92 s93 s94 s95 s96 s97 s98 s99 s100 s101 s102 s103 s104 : Value) :
    Code.wp Try.prog rrg18 (NormPost fun a' w' => ∃ A' n' c', (n' = (L ++ enc lo.toNat ++ enc hi.toNat).length ∧ Rd w' w'.heap.size A' 1 n' ((L ++ enc lo.toNat ++ enc hi.toNat).map by8) ∧ Keeps (fun _ => False) w1 w') ∧ (∃ u67 u68 u69 u70 u71 u72 u73 : Value, a' = ⟨#[s0, s1, s2, s3, s4, s5, .slice A' n' c', s7, .pointer (some ⟨gx, 0, none⟩), s9, s10, s11, s12, s13, s14, s15, s16, s17, s18, s19, s20, s21, s22, s23, s24, s25, s26, s27, s28, s29, s30, s31, s32, s33, s34, s35, s36, s37, s38, s39, s40, s41, s42, s43, s44, s45, s46, s47, s48, s49, s50, s51, s52, s53, s54, s55, s56, s57, s58, s59, s60, s61, s62, s63, s64, s65, s66, u67, u68, u69, u70, u71, u72, u73, s74, s75, s76, s77, s78, s79, s80, s81, s82, s83, s84, s85, s86, s87, s88, s89, s90, s91, s92, s93, s94, s95, s96, s97, s98, s99, s100, s101, s102, s103, s104], []⟩)) ⟨#[s0, s1, s2, s3, s4, s5, .slice A n c, s7, .pointer (some ⟨gx, 0, none⟩), s9, s10, s11, s12, s13, s14, s15, s16, s17, s18, s19, s20, s21, s22, s23, s24, s25, s26, s27, s28, s29, s30, s31, s32, s33, s34, s35, s36, s37, s38, s39, s40, s41, s42, s43, s44, s45, s46, s47, s48, s49, s50, s51, s52, s53, s54, s55, s56, s57, s58, s59, s60, s61, s62, s63, s64, s65, s66, s67, s68, s69, s70, s71, s72, s73, s74, s75, s76, s77, s78, s79, s80, s81, s82, s83, s84, s85, s86, s87, s88, s89, s90, s91, s92, s93, s94, s95, s96, s97, s98, s99, s100, s101, s102, s103, s104], []⟩ w1 := by
  have HR := hide (show Rd w1.drew w1.heap.size A 1 n (L.map by8) from hr)
  have hln : L.length = n := by simpa using hr.1
  have C1 := hide c1
  have C2 := hide c2
  have kd : Keeps (fun _ => False) w1 w1.drew := (Keeps.refl _ _).drew
  clear hr
  conv => arg 2; whnf
  dsimp only
  refine wp_region_held_drew (S := fun w' => w'.cell? ⟨gx, 1, none⟩ = some (.int .u64 lo) ∧ w'.cell? ⟨gx, 2, none⟩ = some (.int .u64 hi)) (by kernel_rfl) ⟨c1, c2⟩ (fun hHeld => ?_)
  clear c1 c2
  refine wpAnyH_take (i := 0) (v := ?_) rfl (by kernel_rfl) (by kernel_rfl) (by kernel_rfl) (fun _ _ _ h => h) (Or.inl ⟨by kernel_rfl, ?_⟩) (by assumption) ?_; rotate_left; focus (intro w hSw; (try dsimp only at hSw); go_simp; try (with_reducible rfl)); (try simp only [Act.put, List.setIfInBounds_toArray, List.set_cons_zero, List.set_cons_succ])
  refine wpAnyH_take (i := 1) (v := ?_) rfl (by kernel_rfl) (by kernel_rfl) (by kernel_rfl) (fun _ _ _ h => h) (Or.inl ⟨by kernel_rfl, ?_⟩) (by assumption) ?_; rotate_left; focus (intro w hSw; (try dsimp only at hSw); go_simp; try (with_reducible rfl)); (try simp only [Act.put, List.setIfInBounds_toArray, List.set_cons_zero, List.set_cons_succ])
  refine wpAnyH_take (i := 2) (v := ?_) rfl (by kernel_rfl) (by kernel_rfl) (by kernel_rfl) (fun _ _ _ h => h) (Or.inl ⟨by kernel_rfl, ?_⟩) (by assumption) ?_; rotate_left; focus (intro w hSw; (try dsimp only at hSw); go_simp; try (with_reducible rfl)); (try simp only [Act.put, List.setIfInBounds_toArray, List.set_cons_zero, List.set_cons_succ])
  refine wpAnyH_take (i := 4) (v := ?_) rfl (by kernel_rfl) (by kernel_rfl) (by kernel_rfl) (fun _ _ _ h => h) (Or.inl ⟨by kernel_rfl, ?_⟩) (by assumption) ?_; rotate_left; focus (intro w hSw; (try dsimp only at hSw); go_simp; try (with_reducible rfl)); (try simp only [Act.put, List.setIfInBounds_toArray, List.set_cons_zero, List.set_cons_succ])
  refine wpAnyH_take (i := 5) (v := ?_) rfl (by kernel_rfl) (by kernel_rfl) (by kernel_rfl) (fun _ _ _ h => h) (Or.inl ⟨by kernel_rfl, ?_⟩) (by assumption) ?_; rotate_left; focus (intro w hSw; (try dsimp only at hSw); go_simp; try (with_reducible rfl)); (try simp only [Act.put, List.setIfInBounds_toArray, List.set_cons_zero, List.set_cons_succ])
  refine wpAnyH_ready (rs := [3]) (by kernel_rfl) (by simp) ?_
  refine AllReadyH.cons rfl (fun K hK => ?_) AllReadyH.nil
  go_simp
  go_at_call 54
  refine (Varint.rappend_any L A n c w1.heap.size w1.drew HR.out (by simp) (by omega) lo hlo.1 hlo.2).mono ?_
  rintro e w5 ⟨A5, n5, c5, hn5, rfl, o5, k5⟩
  have K5 : Keeps (fun _ => False) w1 w5 := kd.trans k5
  have R5 := hide (o5.rd (by omega))
  have hn5' : n5 ≤ n + 10 := by have := (enc_len lo.toNat).2; rw [hn5, List.length_append]; omega
  clear o5 k5 hn5
  try go_wp2_with fail
  refine hK.out _ _ ⟨K5.cell_some C1.out (fun h => h), K5.cell_some C2.out (fun h => h)⟩ (fun hHeld => ?_)
  clear hK K
  (try simp only [Act.put, List.setIfInBounds_toArray, List.set_cons_zero, List.set_cons_succ])
  refine wpAnyH_ready (rs := [6]) (by kernel_rfl) (by simp) ?_
  refine AllReadyH.cons rfl (fun K hK => ?_) AllReadyH.nil
  go_simp
  go_at_call 54
  refine (Varint.rappend_any (L ++ enc lo.toNat) A5 n5 c5 _ w5 R5.out (Nat.le_refl _) (by omega) hi hhi.1 hhi.2).mono ?_
  rintro e w7 ⟨A7, n7, c7, hn7, rfl, o7, k7⟩
  have K7 : Keeps (fun _ => False) w1 w7 := K5.trans k7
  have R7 := hide (o7.rd (by omega))
  have HN7 := hide hn7
  clear o7 k7 hn7
  try go_wp2_with fail
  refine hK.out _ _ ⟨K7.cell_some C1.out (fun h => h), K7.cell_some C2.out (fun h => h)⟩ (fun hHeld => ?_)
  clear hK K
  (try simp only [Act.put, List.setIfInBounds_toArray, List.set_cons_zero, List.set_cons_succ])
  refine wpAnyH_take (i := 7) (v := ?_) rfl (by kernel_rfl) (by kernel_rfl) (by kernel_rfl) (fun _ _ _ h => h) (Or.inl ⟨by kernel_rfl, ?_⟩) (by assumption) ?_; rotate_left; focus (intro w hSw; (try dsimp only at hSw); go_simp; try (with_reducible rfl)); (try simp only [Act.put, List.setIfInBounds_toArray, List.set_cons_zero, List.set_cons_succ])
  refine wpAnyH_done (by kernel_rfl) ?_ _
  refine ⟨_, _, _, ⟨HN7.out, R7.out, K7⟩, ⟨_, _, _, _, _, _, _, rfl⟩⟩
end enc21
end Go.Proofs.Ytaiopdipldaimaa
