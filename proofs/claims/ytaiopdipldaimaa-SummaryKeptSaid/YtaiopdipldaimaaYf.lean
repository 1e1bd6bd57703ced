/-
  Deck.Summary: the loops that draw the rows. No conditions beyond those of the statement.
-/
import Derived.Test.YtaiopdipldaimaaYe
import Derived.Test.YtaiopdipldaimaaCmN
set_option linter.unusedVariables false
set_option linter.unusedSimpArgs false
namespace Go.Proofs.Ytaiopdipldaimaa
open Go.RowKit
namespace dsum
theorem elemR : ElemOf Try.prog 43 31 1 24 := ElemOf.mk' (z := .slice none 0 0) Try.underlying43 (by kernel_rfl) rfl (by omega)
noncomputable def lp2 : Code := ((Try.f24.body.bind fun c => (loops c)[1]?).getD .skip)
noncomputable def lp3 : Code := ((Try.f24.body.bind fun c => (loops c)[2]?).getD .skip)
/-- a row drawn so far -/
def RowSt (w0 : World) (B g gr n : Nat) (tot : Int) (zs : List Int) (wr : World) : Prop :=
  zs.length = n ∧ (∀ z ∈ zs, 0 ≤ z ∧ z ≤ tot) ∧ Blk wr gr 24 (zs.map (.int .u64)).toArray ∧ IsDeck wr B g ∧ Keeps (fun b => b = g ∨ b = gr) w0 wr
set_option maxRecDepth 1000000 in
set_option maxHeartbeats 4000000 in
theorem loop3 (B g X5 gr n : Nat) (w0 : World) (tot : Int) (zs0 : List Int) (t0 : 0 ≤ tot) (t2 : tot ≤ 9223372036854775808) (hn : n ≤ 256) (c5 : w0.cell? ⟨X5, 0, none⟩ = some (.int .u64 tot)) (h5 : X5 ≠ g) (hx : gr ≠ g) (hx5 : gr ≠ X5) (hBx : B ≤ gr)
    (hS : RowSt w0 B g gr n tot zs0 w0) (s1 s2 s3 s4 s6 s7 s8 s9 s10 s12 s13 s14 s15 s16 s17 s18 s19 s20 s21 s22 s23 s24 s25 s26 s27 s28 s29 s30 s31 s32 s33 s34 s35 s36 s37 s38 s39 s40 s41 s42 s43 s44 s45 s46 s47 s48 s49 s50 s51 s52 s53 s54 s55 s56 s57 s58 s59 s60 s61 s62 s63 s64 s65 s66 s67 s68 s69 s70 s71 s72 s73 s74 s75 s76 s77 s78 s79 s80 s81 s82 s83 s84 s85 s86 s87 s88 s89 s90 s91 s92 s93 s94 s95 s98 s99 s100 s101 s102 s103 s104 s105 s106 s107 s108 s109 s110 s111 s112 s113 s114 s115 s116 s117 : Value) :
    Code.wp Try.prog (Code.loop lp3) (LoopPostK 4 fun a' w' => ∃ zs, RowSt w0 B g gr n tot zs w' ∧ (∃ u12 u97 u98 u99 u100 u101 u102 u103 u104 u105 u106 u107 u108 u109 u110 : Value, a' = ⟨#[.pointer (some ⟨g, 0, none⟩), s1, s2, s3, s4, .pointer (some ⟨X5, 0, none⟩), s6, s7, s8, s9, s10, .slice (some ⟨gr, 0, none⟩) n n, u12, s13, s14, s15, s16, s17, s18, s19, s20, s21, s22, s23, s24, s25, s26, s27, s28, s29, s30, s31, s32, s33, s34, s35, s36, s37, s38, s39, s40, s41, s42, s43, s44, s45, s46, s47, s48, s49, s50, s51, s52, s53, s54, s55, s56, s57, s58, s59, s60, s61, s62, s63, s64, s65, s66, s67, s68, s69, s70, s71, s72, s73, s74, s75, s76, s77, s78, s79, s80, s81, s82, s83, s84, s85, s86, s87, s88, s89, s90, s91, s92, s93, s94, s95, .int .i64 (n : Int), u97, u98, u99, u100, u101, u102, u103, u104, u105, u106, u107, u108, u109, u110, s111, s112, s113, s114, s115, s116, s117], []⟩)) ⟨#[.pointer (some ⟨g, 0, none⟩), s1, s2, s3, s4, .pointer (some ⟨X5, 0, none⟩), s6, s7, s8, s9, s10, .slice (some ⟨gr, 0, none⟩) n n, s12, s13, s14, s15, s16, s17, s18, s19, s20, s21, s22, s23, s24, s25, s26, s27, s28, s29, s30, s31, s32, s33, s34, s35, s36, s37, s38, s39, s40, s41, s42, s43, s44, s45, s46, s47, s48, s49, s50, s51, s52, s53, s54, s55, s56, s57, s58, s59, s60, s61, s62, s63, s64, s65, s66, s67, s68, s69, s70, s71, s72, s73, s74, s75, s76, s77, s78, s79, s80, s81, s82, s83, s84, s85, s86, s87, s88, s89, s90, s91, s92, s93, s94, s95, .int .i64 (n : Int), .int .i64 0, s98, s99, s100, s101, s102, s103, s104, s105, s106, s107, s108, s109, s110, s111, s112, s113, s114, s115, s116, s117], []⟩ w0 := by
  have HS := hide hS
  have C5 := hide c5
  clear hS c5
  conv => arg 2; arg 1; whnf
  dsimp only
  go_loopw [97] (fun iv wr => ∃ (i : Nat) (zs : List Int), i ≤ n ∧ iv = .int .i64 (i : Int) ∧ Hid (RowSt w0 B g gr n tot zs wr)) (fun iv _ => n - (intOf iv).toNat)
  case atStart => exact ⟨0, zs0, by omega, rfl, HS⟩
  case round =>
    obtain ⟨i, zs, hi, rfl, HR⟩ := hrel
    by_cases hlt : i < n
    · have HLT : Hid (i + 1 ≤ n) := hlt
      have hi0 : (0 : Int) ≤ (i : Int) := by omega
      have hi1 : (i : Int) < (n : Int) := by omega
      have hwr := HR.out.2.2.2.2
      have c5 : wr.cell? ⟨X5, 0, none⟩ = some (.int .u64 tot) := hwr.cell_some C5.out (by intro h; rcases h with h | h; exact h5 h; exact hx5 h.symm)
      clear hwr
      go_upto_region 23 with fail
      trace "R23"
      refine Code.wp_mono ?_ (reg23 B g X5 gr n i wr tot zs t0 t2 HR.out.2.2.2.1 c5 h5 hx hx5 hBx hlt hn HR.out.1 HR.out.2.2.1 _ _ _ _ _ _ _ _ _ _ _ _ _ _ _ _ _ _ _ _ _ _ _ _ _ _ _ _ _ _ _ _ _ _ _ _ _ _ _ _ _ _ _ _ _ _ _ _ _ _ _ _ _ _ _ _ _ _ _ _ _ _ _ _ _ _ _ _ _ _ _ _ _ _ _ _ _ _ _ _ _ _ _ _ _ _ _ _ _ _ _ _ _ _ _ _ _ _ _ _ _ _ _ _ _ _ _ _ _ _ _ _ _ _)
      intro e a' w3 hex
      cases e <;> (first | exact hex.elim | skip)
      obtain ⟨q, ⟨q0, q1⟩, bx, dk3, k3, ⟨v100, v101, v102, v103, v104, v105, v106, v107, v108, v109, rfl⟩⟩ := hex
      have HN : Hid (RowSt w0 B g gr n tot (zs.set i q) w3) := hide ⟨by rw [List.length_set]; exact HR.out.1, fun z hz => by
        rcases List.mem_or_eq_of_mem_set hz with h | h
        · exact HR.out.2.1 z h
        · subst h; exact ⟨q0, q1⟩, bx, dk3, HR.out.2.2.2.2.trans k3⟩
      clear bx dk3 k3 HR c5
      dsimp only
      go_wp2_with fail
      go_roundw
      case rel => exact ⟨i + 1, zs.set i q, HLT.out, by go_num, HN⟩
      case measure => have := HLT.out; simp [intOf]; omega
    · obtain rfl : i = n := by omega
      go_wp2_with fail
      trace "END"
      first | exact ⟨rfl, zs, HR.out, _, _, _, _, _, _, _, _, _, _, _, _, _, _, _, rfl⟩ | exact ⟨rfl, ⟨zs, HR.out⟩, _, _, _, _, _, _, _, _, _, _, _, _, _, _, _, rfl⟩ | (trace_state; fail)
/-- the rows drawn so far: their blocks and numbers -/
def rcs (n : Nat) (P : List (Nat × List Int)) : List Value := P.map fun p => .slice (some ⟨p.1, 0, none⟩) n n
def RwSt (w0 : World) (B g X5 n : Nat) (tot : Int) (vE vU : Value) (P : List (Nat × List Int)) (A : Option Addr) (cp : Nat) (wr : World) : Prop :=
  (∀ p ∈ P, w0.heap.size ≤ p.1 ∧ p.2.length = n ∧ (∀ z ∈ p.2, 0 ≤ z ∧ z ≤ tot) ∧ Blk wr p.1 24 (p.2.map (.int .u64)).toArray) ∧
  Own wr w0.heap.size 31 1 A P.length cp (rcs n P) ∧ Blk wr X5 45 #[.int .u64 tot, vE, vU, .slice A P.length cp] ∧ IsDeck wr B g ∧ Keeps (fun b => b = g ∨ b = X5) w0 wr
set_option maxRecDepth 1000000 in
set_option maxHeartbeats 4000000 in
theorem loop2 (B g X3 X5 n d : Nat) (w0 : World) (tot : Int) (vE vU : Value) (t0 : 0 ≤ tot) (t2 : tot ≤ 9223372036854775808) (hn : n ≤ 256) (hd : d ≤ 4) (h5 : X5 ≠ g) (h3 : X3 ≠ g) (h35 : X3 ≠ X5) (hB5 : B ≤ X5)
    (c10 : w0.cell? ⟨X3, 10, none⟩ = some (.int .i64 (d : Int))) (c11 : w0.cell? ⟨X3, 11, none⟩ = some (.int .i64 (n : Int)))
    (hS : RwSt w0 B g X5 n tot vE vU [] none 0 w0) (s1 s2 s4 s6 s7 s8 s9 s11 s12 s13 s14 s15 s16 s17 s18 s19 s20 s21 s22 s23 s24 s25 s26 s27 s28 s29 s30 s31 s32 s33 s34 s35 s36 s37 s38 s39 s40 s41 s42 s43 s44 s45 s46 s47 s48 s49 s50 s51 s52 s53 s54 s55 s56 s57 s58 s59 s60 s61 s62 s63 s64 s65 s66 s67 s68 s69 s70 s71 s72 s73 s74 s75 s76 s77 s78 s79 s80 s81 s82 s83 s84 s85 s86 s87 s88 s89 s90 s91 s92 s93 s94 s95 s96 s97 s98 s99 s100 s101 s102 s103 s104 s105 s106 s107 s108 s109 s110 s111 s112 s113 s114 s115 s116 s117 : Value) :
    Code.wp Try.prog (Code.loop lp2) (LoopPostK 2 fun a' w' => ∃ P A cp, P.length = d ∧ RwSt w0 B g X5 n tot vE vU P A cp w' ∧ (∃ u10 u11 u12 u86 u87 u88 u89 u90 u91 u92 u93 u94 u95 u96 u97 u98 u99 u100 u101 u102 u103 u104 u105 u106 u107 u108 u109 u110 u111 u112 u113 u114 u115 u116 : Value, a' = ⟨#[.pointer (some ⟨g, 0, none⟩), s1, s2, .pointer (some ⟨X3, 0, none⟩), s4, .pointer (some ⟨X5, 0, none⟩), s6, s7, s8, s9, u10, u11, u12, s13, s14, s15, s16, s17, s18, s19, s20, s21, s22, s23, s24, s25, s26, s27, s28, s29, s30, s31, s32, s33, s34, s35, s36, s37, s38, s39, s40, s41, s42, s43, s44, s45, s46, s47, s48, s49, s50, s51, s52, s53, s54, s55, s56, s57, s58, s59, s60, s61, s62, s63, s64, s65, s66, s67, s68, s69, s70, s71, s72, s73, s74, s75, s76, s77, s78, s79, s80, s81, s82, s83, s84, s85, u86, u87, u88, u89, u90, u91, u92, u93, u94, u95, u96, u97, u98, u99, u100, u101, u102, u103, u104, u105, u106, u107, u108, u109, u110, u111, u112, u113, u114, u115, u116, s117], []⟩)) ⟨#[.pointer (some ⟨g, 0, none⟩), s1, s2, .pointer (some ⟨X3, 0, none⟩), s4, .pointer (some ⟨X5, 0, none⟩), s6, s7, s8, s9, .int .i64 0, s11, s12, s13, s14, s15, s16, s17, s18, s19, s20, s21, s22, s23, s24, s25, s26, s27, s28, s29, s30, s31, s32, s33, s34, s35, s36, s37, s38, s39, s40, s41, s42, s43, s44, s45, s46, s47, s48, s49, s50, s51, s52, s53, s54, s55, s56, s57, s58, s59, s60, s61, s62, s63, s64, s65, s66, s67, s68, s69, s70, s71, s72, s73, s74, s75, s76, s77, s78, s79, s80, s81, s82, s83, s84, s85, s86, s87, s88, s89, s90, s91, s92, s93, s94, s95, s96, s97, s98, s99, s100, s101, s102, s103, s104, s105, s106, s107, s108, s109, s110, s111, s112, s113, s114, s115, s116, s117], []⟩ w0 := by
  have hg0 := hS.2.2.2.1.lt
  have hBg := hS.2.2.2.1.le
  have hX0 := hS.2.2.1.lt
  have HS := hide hS
  have C10 := hide c10
  have C11 := hide c11
  have hmk := fun w => run_make64 n (by omega) w
  clear hS c10 c11
  conv => arg 2; arg 1; whnf
  dsimp only
  go_loopw [10] (fun iv wr => ∃ (P : List (Nat × List Int)) (A : Option Addr) (cp : Nat), P.length ≤ d ∧ iv = .int .i64 (P.length : Int) ∧ Hid (RwSt w0 B g X5 n tot vE vU P A cp wr)) (fun iv _ => d - (intOf iv).toNat)
  case atStart => exact ⟨[], none, 0, by simp, rfl, HS⟩
  case round =>
    obtain ⟨P, A, cp, hi, rfl, HR⟩ := hrel
    obtain ⟨i, hil⟩ : ∃ i, i = P.length := ⟨_, rfl⟩
    have HIL := hide hil
    rw [← hil] at hi ⊢
    clear hil
    have hkw := HR.out.2.2.2.2
    have hdk := HR.out.2.2.2.1
    have c10 : wr.cell? ⟨X3, 10, none⟩ = some (.int .i64 (d : Int)) := hkw.cell_some C10.out (by intro h; rcases h with h | h; exact h3 h; exact h35 h)
    by_cases hlt : i < d
    · have HLT : Hid (i + 1 ≤ d) := hlt
      have hi0 : (0 : Int) ≤ (i : Int) := by omega
      have hi1 : (i : Int) < (d : Int) := by omega
      have c11 : wr.cell? ⟨X3, 11, none⟩ = some (.int .i64 (n : Int)) := hkw.cell_some C11.out (by intro h; rcases h with h | h; exact h3 h; exact h35 h)
      have hws := hkw.size
      have kA := (Keeps.refl (fun _ => False) wr).alloc (.cells (Array.replicate n (.int .u64 0)) 24)
      have HR2 : Hid (RowSt (wr.alloc (.cells (Array.replicate n (.int .u64 0)) 24)) B g wr.heap.size n tot (List.replicate n 0) (wr.alloc (.cells (Array.replicate n (.int .u64 0)) 24))) := hide ⟨by simp, fun z hz => by obtain ⟨_, rfl⟩ := List.mem_replicate.1 hz; omega, by rw [show ((List.replicate n (0 : Int)).map (Value.int .u64)).toArray = Array.replicate n (Value.int .u64 0) from by simp]; exact Blk.new _ _ _, hdk.kept kA (fun h => h) (fun _ _ h => h), Keeps.refl _ _⟩
      have c5 : (wr.alloc (.cells (Array.replicate n (.int .u64 0)) 24)).cell? ⟨X5, 0, none⟩ = some (.int .u64 tot) := (HR.out.2.2.1.kept kA (fun h => h)).cell 0
      have C5 := hide c5
      have HR0 : Hid (∀ w', Keeps (fun b => b = g ∨ b = wr.heap.size) (wr.alloc (.cells (Array.replicate n (.int .u64 0)) 24)) w' → Keeps (fun b => b = g ∨ b = wr.heap.size) wr w') := hide (fun w' k => ((Keeps.refl (fun b => b = g ∨ b = wr.heap.size) wr).step kA (fun _ _ h => h.elim)).trans k)
      have hPl : ∀ p ∈ P, p.1 < wr.heap.size := fun p hp => (HR.out.1 p hp).2.2.2.lt
      have hAl : ∀ b, inB A b → b < wr.heap.size := fun b hb => (HR.out.2.1.inB hb).2
      clear kA c5 hkw hdk
      go_upto_block 4 with fail
      trace "B4"
      generalize hwm : wr.alloc _ = wm at *
      generalize wr.heap.size = gr at *
      clear hmk hwm c10 c11
      go_wp2_with fail
      trace "L3"
      refine Code.wp_mono ?_ (loop3 B g X5 gr n wm tot (List.replicate n 0) t0 t2 hn C5.out h5 (by omega) (by omega) (by omega) HR2.out _ _ _ _ _ _ _ _ _ _ _ _ _ _ _ _ _ _ _ _ _ _ _ _ _ _ _ _ _ _ _ _ _ _ _ _ _ _ _ _ _ _ _ _ _ _ _ _ _ _ _ _ _ _ _ _ _ _ _ _ _ _ _ _ _ _ _ _ _ _ _ _ _ _ _ _ _ _ _ _ _ _ _ _ _ _ _ _ _ _ _ _ _ _ _ _ _ _ _ _ _ _ _ _ _ _ _ _ _ _ _ _ _)
      intro e a' w4 hex
      cases e <;> (first | exact hex.elim | skip)
      obtain ⟨rfl, zs, ⟨hz1, hz2, bz, dk4, k4⟩, ⟨v12, v97, v98, v99, v100, v101, v102, v103, v104, v105, v106, v107, v108, v109, v110, rfl⟩⟩ := hex
      have k4 := HR0.out _ k4
      have KK := hide (HR.out.2.2.2.2.step k4 (fun b hb e => by rcases e with e | e; exact Or.inl e; omega))
      have BL := hide (HR.out.2.2.1.kept k4 (by intro e; rcases e with e | e; exact h5 e; omega))
      have OW := hide (HR.out.2.1.kept k4 (fun b hb e => by rcases e with e | e; (have := (HR.out.2.1.inB hb).1; omega); (have := hAl b hb; omega)))
      have HP : Hid (∀ p ∈ P ++ [(gr, zs)], w0.heap.size ≤ p.1 ∧ p.2.length = n ∧ (∀ z ∈ p.2, 0 ≤ z ∧ z ≤ tot) ∧ Blk w4 p.1 24 (p.2.map (.int .u64)).toArray) := hide (fun p hp => by
        rcases List.mem_append.1 hp with h | h
        · obtain ⟨p1, p2, p3, p4⟩ := HR.out.1 p h
          have := hPl p h
          exact ⟨p1, p2, p3, p4.kept k4 (by intro e; rcases e with e | e <;> omega)⟩
        · obtain rfl : p = (gr, zs) := by simpa using h
          exact ⟨hws, hz1, hz2, bz⟩)
      have DK4 := hide dk4
      have hw4 := KK.out.size
      clear hz1 hz2 bz dk4 k4 HR HR0 HR2 C5 hPl hAl
      dsimp only
      rw [← HIL.out] at OW BL
      have p3 : w4.cell? ⟨X5, 3, none⟩ = some (.slice A i cp) := BL.out.cell 3
      have hX4 := BL.out.lt
      have kA := (Keeps.refl (fun _ => False) w4).alloc (.cells #[.slice (some ⟨gr, 0, none⟩) n n] 31)
      have HOA := hide (OW.out.kept kA (fun _ _ h => h))
      have HRA := hide (show Rd (w4.alloc (.cells #[.slice (some ⟨gr, 0, none⟩) n n] 31)) (w4.alloc (.cells #[.slice (some ⟨gr, 0, none⟩) n n] 31)).heap.size (some ⟨w4.heap.size, 0, none⟩) 1 1 [.slice (some ⟨gr, 0, none⟩) n n] from (Blk.new w4 31 #[.slice (some ⟨gr, 0, none⟩) n n]).rd (xs := [.slice (some ⟨gr, 0, none⟩) n n]) (n := 1) (sz := 1) rfl)
      have HBA := hide (BL.out.kept kA (fun h => h))
      have HDA := hide (DK4.out.kept kA (fun h => h) (fun _ _ h => h))
      have HKA := hide (KK.out.step kA (fun _ _ h => h.elim))
      have HPA : Hid (∀ p ∈ P ++ [(gr, zs)], w0.heap.size ≤ p.1 ∧ p.2.length = n ∧ (∀ z ∈ p.2, 0 ≤ z ∧ z ≤ tot) ∧ Blk (w4.alloc (.cells #[.slice (some ⟨gr, 0, none⟩) n n] 31)) p.1 24 (p.2.map (.int .u64)).toArray) := hide (fun p hp => ⟨(HP.out p hp).1, (HP.out p hp).2.1, (HP.out p hp).2.2.1, (HP.out p hp).2.2.2.kept kA (fun h => h)⟩)
      clear OW DK4 KK kA BL HP
      go_upto_region 18 with (at_builtin; refine wpList_app _ elemR rfl (.tmp 112) (.tmp 114) rfl w0.heap.size (rcs n P) rfl HOA.out _ (m := 1) [.slice (some ⟨gr, 0, none⟩) n n] rfl HRA.out (by simp [Value.oneCell']) (by simp only [maxLen]; omega) (by omega) (by simp; omega) ?_; intro A7 c7 w7 o7 k7 _; have O7 := hide o7; have hX27 : ∀ b, inB A b → w0.heap.size ≤ b := (fun b hb => (HOA.out.inB hb).1); have B7 := hide (HBA.out.kept k7 (fun h => by have := hX27 _ h; omega)); have D7 := hide (HDA.out.kept k7 (fun h => by have := hX27 _ h; omega) (fun b hb h => by have := hX27 _ h; omega)); have K7 := hide (HKA.out.step k7 (fun k hk h => by have := hX27 _ h; omega)); have P7 := hide (fun p hp => (HPA.out p hp).2.2.2.kept k7 (fun h => HOA.out.ne_blk (HPA.out p hp).2.2.2 (by decide) h rfl)); have q14 := B7.out.cell 3; have f14 := B7.out.frozen 3; clear o7 k7)
      trace "R18"
      have kS : Keeps (· = X5) w7 (w7.setCell ⟨X5, 3, none⟩ (.slice A7 (i + 1) c7)) := Keeps.setCell (S := (· = X5)) (p := ⟨X5, 3, none⟩) (Keeps.refl _ _) (.inl rfl) _
      have hl1 : (P ++ [(gr, zs)]).length = i + 1 := by rw [List.length_append, ← HIL.out]; rfl
      have hrc : rcs n P ++ [.slice (some ⟨gr, 0, none⟩) n n] = rcs n (P ++ [(gr, zs)]) := by simp [rcs]
      have HN : Hid (RwSt w0 B g X5 n tot vE vU (P ++ [(gr, zs)]) A7 c7 (w7.setCell ⟨X5, 3, none⟩ (.slice A7 (i + 1) c7))) := hide ⟨fun p hp => ⟨(HPA.out p hp).1, (HPA.out p hp).2.1, (HPA.out p hp).2.2.1, (P7.out p hp).kept kS (by have := (HPA.out p hp).1; omega)⟩, by rw [hl1, ← hrc]; exact O7.out.kept kS (fun b hb e => by have := (O7.out.inB hb).1; omega), by rw [hl1]; exact B7.out.set 3 _, D7.out.kept kS (fun h => h5 h.symm) (fun b hb e => by omega), K7.out.step kS (fun b hb e => Or.inr e)⟩
      have HL1 : Hid ((P ++ [(gr, zs)]).length = i + 1) := hide hl1
      clear kS HOA HRA HBA HDA HKA O7 B7 D7 K7 q14 f14 p3 P7 HPA hl1 hrc
      generalize w7.setCell _ _ = w8 at *
      go_wp2_with fail
      trace "ROUND"
      go_roundw
      case rel => exact ⟨P ++ [(gr, zs)], A7, c7, by rw [HL1.out]; exact HLT.out, by rw [HL1.out]; go_num, HN⟩
      case measure => have := HLT.out; simp [intOf]; omega
    · obtain rfl : i = d := by omega
      clear hmk hkw hdk
      go_wp2_with fail
      trace "END"
      first | exact ⟨rfl, P, A, cp, HIL.out.symm, HR.out, _, _, _, _, _, _, _, _, _, _, _, _, _, _, _, _, _, _, _, _, _, _, _, _, _, _, _, _, _, _, _, _, _, _, rfl⟩ | exact ⟨rfl, P, ⟨A, cp, HIL.out.symm, HR.out⟩, _, _, _, _, _, _, _, _, _, _, _, _, _, _, _, _, _, _, _, _, _, _, _, _, _, _, _, _, _, _, _, _, _, _, rfl⟩ | exact ⟨rfl, ⟨P, HIL.out.symm, ⟨A, cp, HR.out⟩⟩, _, _, _, _, _, _, _, _, _, _, _, _, _, _, _, _, _, _, _, _, _, _, _, _, _, _, _, _, _, _, _, _, _, _, rfl⟩ | exact ⟨rfl, P, HIL.out.symm, ⟨A, cp, HR.out⟩, _, _, _, _, _, _, _, _, _, _, _, _, _, _, _, _, _, _, _, _, _, _, _, _, _, _, _, _, _, _, _, _, _, _, rfl⟩ | (trace_state; fail)
end dsum
end Go.Proofs.Ytaiopdipldaimaa
