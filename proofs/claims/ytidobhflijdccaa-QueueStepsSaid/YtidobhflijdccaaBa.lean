/-
  The reference's NewArena. No conditions beyond those of the statement.
-/
import Derived.Test.YtidobhflijdccaaAz
import Derived.Deep.RegionHeld3
import Derived.Deep.DrawnRows
set_option linter.unusedVariables false
set_option linter.unusedSimpArgs false
namespace Go.Proofs.Ytidobhflijdccaa
open Go.RowKit Cfp
theorem run_makeJ (n : Nat) (hn : n ≤ 65536) (w : World) : (Instr.makeSlice 23 (.int .i64 (n : Int)) (.int .i64 (n : Int))).run Try.prog w = .ok (.slice (some ⟨w.heap.size, 0, none⟩) n n) (w.alloc (.cells (List.replicate n (.int .i64 0)).toArray 3)) := by
  have hi : (Try.prog.info? 3).map (fun i => (i.zero, i.size, i.bytes)) = some (some (.int .i64 0), 1, 8) := by kernel_rfl
  obtain ⟨i, h1, h2, h3, h4⟩ := info_parts hi
  have hr := run_make (P := Try.prog) w 23 3 i (.int .i64 0) Try.underlying23 h1 h2 .i64 .i64 (n : Int) (n : Int) (by omega) (by omega) (by rw [h4]; omega) (by omega)
  rw [hr, Int.toNat_natCast, h3, Nat.mul_one]
  have : madeCells (Value.int .i64 0).cells n = (List.replicate n (Value.int .i64 0)).toArray := by
    apply Array.ext'
    rw [show (Value.int .i64 0).cells = #[Value.int .i64 0] from rfl]
    refine List.ext_getElem (by simp [madeCells]) (fun j h1 h2 => ?_)
    simp [madeCells, Nat.mod_one]
  rw [this]
theorem prs_one (l : List (Int × Int)) : ∀ u ∈ prs l, u.oneCell' = true := by
  intro u hu
  unfold prs at hu
  rw [List.mem_flatMap] at hu
  obtain ⟨c, _, hu⟩ := hu
  simp [prC] at hu
  rcases hu with rfl | rfl <;> rfl
/-- what NewArena gives -/
def RNew (w : World) (n : Nat) (l : List (Int × Int)) (e : Ending) (w' : World) : Prop :=
  ∃ b D c g, e = .returned (.tuple #[.pointer (some ⟨b, 0, none⟩), .int .i64 0]) ∧ Blk w' b 136 #[.slice D n c, .slice none 0 0, .slice none 0 0, .slice (some ⟨g, 0, none⟩) n n, .int .i64 0] ∧
    w.heap.size ≤ b ∧ w.heap.size ≤ g ∧ Own w' w.heap.size 37 2 D n c (prs l) ∧ Blk w' g 3 (Array.replicate n (.int .i64 0)) ∧ Keeps (fun _ => False) w w'
set_option maxRecDepth 100000 in
set_option maxHeartbeats 1000000 in
theorem rnew_ok (l : List (Int × Int)) (hE : classesE l = 0) (C : Option Addr) (n k B : Nat) (w : World) (hr : Rd w B C 2 n (prs l)) (hB : B ≤ w.heap.size) :
    Calls Try.prog 46 #[.slice C n k] w (RNew w n l) := by
  have hlen : l.length = n := by have := hr.1; rw [prs_len] at this; omega
  obtain ⟨⟨n0, n1⟩, hlb⟩ := classes_bd2 l hE
  rw [hlen] at n0 n1
  have HCk := hide (rclasses_any l (fun c hc => by have := hlb c hc; omega) C n k B w hr hB (by omega))
  rw [hE] at HCk
  have HR := hide hr
  have hmk := fun w => run_makeJ n (by omega) w
  clear hr hE hlb hlen
  go_enter Try.func46, Try.ntmps46
  go_wp2_with fail
  refine HCk.out.mono ?_
  rintro e w1 ⟨rfl, k1⟩
  have K1 := hide k1
  have R1 := hide (HR.out.kept k1 (fun _ _ h => h))
  have hw1 : w.heap.size ≤ w1.heap.size := k1.size
  clear k1 HCk HR
  go_upto_region 4 with fail
  trace "R4"
  refine wp_region_held_drew (S := fun w' => Keeps (fun _ => False) w1 w') (by kernel_rfl) ((Keeps.refl _ _).drew) (fun hHeld => ?_)
  refine wpAnyH_take (i := 1) (v := ?_) rfl (by kernel_rfl) (by kernel_rfl) (by kernel_rfl) (fun _ _ _ h => h) (Or.inl ⟨by first | kernel_rfl | rfl, ?_⟩) (by assumption) ?_; rotate_left; focus (intro w hSw; (try dsimp only at hSw); go_simp; try (with_reducible rfl)); (try simp only [Act.put, List.setIfInBounds_toArray, List.set_cons_zero, List.set_cons_succ])
  refine wpAnyH_take (i := 3) (v := ?_) rfl (by kernel_rfl) (by kernel_rfl) (by kernel_rfl) (fun _ _ _ h => h) (Or.inl ⟨by first | kernel_rfl | rfl, ?_⟩) (by assumption) ?_; rotate_left; focus (intro w hSw; (try dsimp only at hSw); go_simp; try (with_reducible rfl)); (try simp only [Act.put, List.setIfInBounds_toArray, List.set_cons_zero, List.set_cons_succ])
  refine wpAnyH_take (i := 4) (v := ?_) rfl (by kernel_rfl) (by kernel_rfl) (by kernel_rfl) (fun _ _ _ h => h) (Or.inl ⟨by first | kernel_rfl | rfl, ?_⟩) (by assumption) ?_; rotate_left; focus (intro w hSw; (try dsimp only at hSw); go_simp; try (with_reducible rfl)); (try simp only [Act.put, List.setIfInBounds_toArray, List.set_cons_zero, List.set_cons_succ])
  refine wpAnyH_ready (rs := [0, 5]) (by kernel_rfl) (by simp) ?_
  refine AllReadyH.cons rfl (fun K hK => ?_) (AllReadyH.cons rfl (fun K hK => ?_) AllReadyH.nil)
  · go_simp
    trace "BS"
    have hk2 : Keeps (fun _ => False) w1 (w1.alloc (.cells #[] 37)).drew := ((Keeps.refl _ _).alloc _).drew
    have O2 := hide (show Own (w1.alloc (.cells #[] 37)).drew w1.heap.size 37 2 (some ⟨w1.heap.size, 0, none⟩) 0 0 [] from Own.new0 w1 w1.heap.size 37 2 w1.heap.size rfl (Nat.le_refl _))
    have hg0 : w1.heap.size ≤ w1.heap.size := Nat.le_refl _
    refine hK.out _ _ hk2 (fun _ => ?_)
    clear hK K
    generalize (w1.alloc _).drew = w2 at *
    (try simp only [Act.put, List.setIfInBounds_toArray, List.set_cons_zero, List.set_cons_succ])
    refine wpAnyH_ready (rs := [2, 5]) (by kernel_rfl) (by simp) ?_
    refine AllReadyH.cons rfl (fun K hK => ?_) (AllReadyH.cons rfl (fun K hK => ?_) AllReadyH.nil)
    ·
      refine wp_app _ elemClass (.tmp 10) (.tmp 11) rfl w1.heap.size _ rfl O2.out _ (m := n) _ rfl (R1.out.kept hk2 (fun _ _ h => h)) (prs_one l) (by simp only [maxLen]; omega) (by omega) hk2.size ?_
      intro A7 c7 w7 o7 k7 hA7
      rw [Nat.zero_add, List.nil_append] at o7
      simp only [Nat.zero_add, Act.put, List.setIfInBounds_toArray, List.set_cons_zero, List.set_cons_succ]
      have hk7 : Keeps (fun _ => False) w1 w7 := hk2.step k7 (fun b hb h => by have := O2.out.inB h; omega)
      have O7 := hide o7
      refine hK.out _ _ hk7 (fun _ => ?_)
      clear hK K
      clear hA7 O2
      refine wpAnyH_ready (rs := [5]) (by kernel_rfl) (by simp) ?_
      refine AllReadyH.cons rfl (fun K hK => ?_) AllReadyH.nil
      go_simp
      have hk8 := hk7.alloc (.cells (Array.replicate n (.int .i64 0)) 3)
      have N9' := hide (show Blk (w7.alloc (.cells (Array.replicate n (.int .i64 0)) 3)) w7.heap.size 3 (Array.replicate n (.int .i64 0)) from Blk.new _ _ _)
      have O9' := hide (O7.out.kept ((Keeps.refl (fun _ => False) w7).alloc (.cells (Array.replicate n (.int .i64 0)) 3)) (fun _ _ h => h))
      have hg := hk7.size
      refine hK.out _ _ hk8 (fun _ => ?_)
      clear hK K
      generalize w7.alloc _ = w8 at *
      generalize w7.heap.size = g at *
      (try simp only [Act.put, List.setIfInBounds_toArray, List.set_cons_zero, List.set_cons_succ])
      refine wpAnyH_take (i := 6) (v := ?_) rfl (by kernel_rfl) (by kernel_rfl) (by kernel_rfl) (fun _ _ _ h => h) (Or.inl ⟨by first | kernel_rfl | rfl, ?_⟩) (by assumption) ?_; rotate_left; focus (intro w hSw; (try dsimp only at hSw); go_simp; try (with_reducible rfl)); (try simp only [Act.put, List.setIfInBounds_toArray, List.set_cons_zero, List.set_cons_succ])
      refine wpAnyH_ready (rs := [7]) (by kernel_rfl) (by simp) ?_
      refine AllReadyH.cons rfl (fun K hK => ?_) AllReadyH.nil
      go_simp
      have hk9 : Keeps (fun _ => False) w1 (w8.alloc (.cells #[.slice A7 n c7, .slice none 0 0, .slice none 0 0, .slice (some ⟨g, 0, none⟩) n n, .int .i64 0] 136)) := hk8.alloc _
      have F := hide (show Blk (w8.alloc (.cells #[.slice A7 n c7, .slice none 0 0, .slice none 0 0, .slice (some ⟨g, 0, none⟩) n n, .int .i64 0] 136)) w8.heap.size 136 #[.slice A7 n c7, .slice none 0 0, .slice none 0 0, .slice (some ⟨g, 0, none⟩) n n, .int .i64 0] from Blk.new _ _ _)
      have O9 := hide (O9'.out.kept ((Keeps.refl (fun _ => False) w8).alloc (.cells #[.slice A7 n c7, .slice none 0 0, .slice none 0 0, .slice (some ⟨g, 0, none⟩) n n, .int .i64 0] 136)) (fun _ _ h => h))
      have N9 := hide (N9'.out.kept ((Keeps.refl (fun _ => False) w8).alloc (.cells #[.slice A7 n c7, .slice none 0 0, .slice none 0 0, .slice (some ⟨g, 0, none⟩) n n, .int .i64 0] 136)) (fun h => h))
      have hb9 : w1.heap.size ≤ w8.heap.size := hk8.size
      refine hK.out _ _ hk9 (fun _ => ?_)
      clear hK K
      (try simp only [Act.put, List.setIfInBounds_toArray, List.set_cons_zero, List.set_cons_succ])
      refine wpAnyH_take (i := 8) (v := ?_) rfl (by kernel_rfl) (by kernel_rfl) (by kernel_rfl) (fun _ _ _ h => h) (Or.inl ⟨by first | kernel_rfl | rfl, ?_⟩) (by assumption) ?_; rotate_left; focus (intro w hSw; (try dsimp only at hSw); go_simp; try (with_reducible rfl)); (try simp only [Act.put, List.setIfInBounds_toArray, List.set_cons_zero, List.set_cons_succ])
      refine wpAnyH_take (i := 9) (v := ?_) rfl (by kernel_rfl) (by kernel_rfl) (by kernel_rfl) (fun _ _ _ h => h) (Or.inl ⟨by first | kernel_rfl | rfl, ?_⟩) (by assumption) ?_; rotate_left; focus (intro w hSw; (try dsimp only at hSw); go_simp; try (with_reducible rfl)); (try simp only [Act.put, List.setIfInBounds_toArray, List.set_cons_zero, List.set_cons_succ])
      refine wpAnyH_done (by kernel_rfl) ?_ _
      go_wp2_with fail
      go_ret2
      exact ⟨_, _, _, _, rfl, F.out, by omega, by omega, O9.out.base_le hw1, N9.out, K1.out.trans hk9⟩
    · go_simp
      have hk8 := hk2.alloc (.cells (Array.replicate n (.int .i64 0)) 3)
      have N8 := hide (show Blk (w2.alloc (.cells (Array.replicate n (.int .i64 0)) 3)) w2.heap.size 3 (Array.replicate n (.int .i64 0)) from Blk.new _ _ _)
      have O3 := hide (O2.out.kept ((Keeps.refl (fun _ => False) w2).alloc (.cells (Array.replicate n (.int .i64 0)) 3)) (fun _ _ h => h))
      have hg := hk2.size
      refine hK.out _ _ hk8 (fun _ => ?_)
      clear hK K O2
      generalize w2.alloc _ = w8 at *
      generalize w2.heap.size = g at *
      (try simp only [Act.put, List.setIfInBounds_toArray, List.set_cons_zero, List.set_cons_succ])
      refine wpAnyH_ready (rs := [2]) (by kernel_rfl) (by simp) ?_
      refine AllReadyH.cons rfl (fun K hK => ?_) AllReadyH.nil
      have O2 := O3
      refine wp_app _ elemClass (.tmp 10) (.tmp 11) rfl w1.heap.size _ rfl O2.out _ (m := n) _ rfl (R1.out.kept hk8 (fun _ _ h => h)) (prs_one l) (by simp only [maxLen]; omega) (by omega) hk8.size ?_
      intro A7 c7 w7 o7 k7 hA7
      rw [Nat.zero_add, List.nil_append] at o7
      simp only [Nat.zero_add, Act.put, List.setIfInBounds_toArray, List.set_cons_zero, List.set_cons_succ]
      have hk7 : Keeps (fun _ => False) w1 w7 := hk8.step k7 (fun b hb h => by have := O2.out.inB h; omega)
      have O7 := hide o7
      have N9' := hide (N8.out.kept k7 (fun hb => O2.out.ne_blk N8.out (by decide) hb rfl))
      have O9' := O7
      refine hK.out _ _ hk7 (fun _ => ?_)
      clear hK K hA7 O2 O3 N8 k7
      (try simp only [Act.put, List.setIfInBounds_toArray, List.set_cons_zero, List.set_cons_succ])
      refine wpAnyH_take (i := 6) (v := ?_) rfl (by kernel_rfl) (by kernel_rfl) (by kernel_rfl) (fun _ _ _ h => h) (Or.inl ⟨by first | kernel_rfl | rfl, ?_⟩) (by assumption) ?_; rotate_left; focus (intro w hSw; (try dsimp only at hSw); go_simp; try (with_reducible rfl)); (try simp only [Act.put, List.setIfInBounds_toArray, List.set_cons_zero, List.set_cons_succ])
      refine wpAnyH_ready (rs := [7]) (by kernel_rfl) (by simp) ?_
      refine AllReadyH.cons rfl (fun K hK => ?_) AllReadyH.nil
      go_simp
      have hk9 : Keeps (fun _ => False) w1 (w7.alloc (.cells #[.slice A7 n c7, .slice none 0 0, .slice none 0 0, .slice (some ⟨g, 0, none⟩) n n, .int .i64 0] 136)) := hk7.alloc _
      have F := hide (show Blk (w7.alloc (.cells #[.slice A7 n c7, .slice none 0 0, .slice none 0 0, .slice (some ⟨g, 0, none⟩) n n, .int .i64 0] 136)) w7.heap.size 136 #[.slice A7 n c7, .slice none 0 0, .slice none 0 0, .slice (some ⟨g, 0, none⟩) n n, .int .i64 0] from Blk.new _ _ _)
      have O9 := hide (O9'.out.kept ((Keeps.refl (fun _ => False) w7).alloc (.cells #[.slice A7 n c7, .slice none 0 0, .slice none 0 0, .slice (some ⟨g, 0, none⟩) n n, .int .i64 0] 136)) (fun _ _ h => h))
      have N9 := hide (N9'.out.kept ((Keeps.refl (fun _ => False) w7).alloc (.cells #[.slice A7 n c7, .slice none 0 0, .slice none 0 0, .slice (some ⟨g, 0, none⟩) n n, .int .i64 0] 136)) (fun h => h))
      have hb9 : w1.heap.size ≤ w7.heap.size := hk7.size
      refine hK.out _ _ hk9 (fun _ => ?_)
      clear hK K
      (try simp only [Act.put, List.setIfInBounds_toArray, List.set_cons_zero, List.set_cons_succ])
      refine wpAnyH_take (i := 8) (v := ?_) rfl (by kernel_rfl) (by kernel_rfl) (by kernel_rfl) (fun _ _ _ h => h) (Or.inl ⟨by first | kernel_rfl | rfl, ?_⟩) (by assumption) ?_; rotate_left; focus (intro w hSw; (try dsimp only at hSw); go_simp; try (with_reducible rfl)); (try simp only [Act.put, List.setIfInBounds_toArray, List.set_cons_zero, List.set_cons_succ])
      refine wpAnyH_take (i := 9) (v := ?_) rfl (by kernel_rfl) (by kernel_rfl) (by kernel_rfl) (fun _ _ _ h => h) (Or.inl ⟨by first | kernel_rfl | rfl, ?_⟩) (by assumption) ?_; rotate_left; focus (intro w hSw; (try dsimp only at hSw); go_simp; try (with_reducible rfl)); (try simp only [Act.put, List.setIfInBounds_toArray, List.set_cons_zero, List.set_cons_succ])
      refine wpAnyH_done (by kernel_rfl) ?_ _
      go_wp2_with fail
      go_ret2
      exact ⟨_, _, _, _, rfl, F.out, by omega, by omega, O9.out.base_le hw1, N9.out, K1.out.trans hk9⟩
  · go_simp
    trace "MK"
    have hk2 : Keeps (fun _ => False) w1 (w1.alloc (.cells (Array.replicate n (.int .i64 0)) 3)).drew := ((Keeps.refl _ _).alloc _).drew
    have N2 := hide (show Blk (w1.alloc (.cells (Array.replicate n (.int .i64 0)) 3)).drew w1.heap.size 3 (Array.replicate n (.int .i64 0)) from Blk.new w1 _ _)
    have hg : w1.heap.size ≤ w1.heap.size := Nat.le_refl _
    refine hK.out _ _ hk2 (fun _ => ?_)
    clear hK K
    generalize (w1.alloc _).drew = w2 at *
    (try simp only [Act.put, List.setIfInBounds_toArray, List.set_cons_zero, List.set_cons_succ])
    refine wpAnyH_ready (rs := [0]) (by kernel_rfl) (by simp) ?_
    refine AllReadyH.cons rfl (fun K hK => ?_) AllReadyH.nil
    go_simp
    have hk8 := hk2.alloc (.cells #[] 37)
    have O2 := hide (show Own (w2.alloc (.cells #[] 37)) w1.heap.size 37 2 (some ⟨w2.heap.size, 0, none⟩) 0 0 [] from Own.new0 w2 w1.heap.size 37 2 w2.heap.size rfl hk2.size)
    have N8 := hide (N2.out.kept ((Keeps.refl (fun _ => False) w2).alloc (.cells #[] 37)) (fun h => h))
    refine hK.out _ _ hk8 (fun _ => ?_)
    clear hK K N2
    generalize w2.alloc _ = w8 at *
    generalize w2.heap.size = q at *
    (try simp only [Act.put, List.setIfInBounds_toArray, List.set_cons_zero, List.set_cons_succ])
    refine wpAnyH_ready (rs := [2]) (by kernel_rfl) (by simp) ?_
    refine AllReadyH.cons rfl (fun K hK => ?_) AllReadyH.nil
    refine wp_app _ elemClass (.tmp 10) (.tmp 11) rfl w1.heap.size _ rfl O2.out _ (m := n) _ rfl (R1.out.kept hk8 (fun _ _ h => h)) (prs_one l) (by simp only [maxLen]; omega) (by omega) hk8.size ?_
    intro A7 c7 w7 o7 k7 hA7
    rw [Nat.zero_add, List.nil_append] at o7
    simp only [Nat.zero_add, Act.put, List.setIfInBounds_toArray, List.set_cons_zero, List.set_cons_succ]
    have hk7 : Keeps (fun _ => False) w1 w7 := hk8.step k7 (fun b hb h => by have := O2.out.inB h; omega)
    have O7 := hide o7
    have N9' := hide (N8.out.kept k7 (fun hb => O2.out.ne_blk N8.out (by decide) hb rfl))
    have O9' := O7
    refine hK.out _ _ hk7 (fun _ => ?_)
    clear hK K hA7 O2 N8 k7
    (try simp only [Act.put, List.setIfInBounds_toArray, List.set_cons_zero, List.set_cons_succ])
    refine wpAnyH_take (i := 6) (v := ?_) rfl (by kernel_rfl) (by kernel_rfl) (by kernel_rfl) (fun _ _ _ h => h) (Or.inl ⟨by first | kernel_rfl | rfl, ?_⟩) (by assumption) ?_; rotate_left; focus (intro w hSw; (try dsimp only at hSw); go_simp; try (with_reducible rfl)); (try simp only [Act.put, List.setIfInBounds_toArray, List.set_cons_zero, List.set_cons_succ])
    refine wpAnyH_ready (rs := [7]) (by kernel_rfl) (by simp) ?_
    refine AllReadyH.cons rfl (fun K hK => ?_) AllReadyH.nil
    go_simp
    have hk9 : Keeps (fun _ => False) w1 (w7.alloc (.cells #[.slice A7 n c7, .slice none 0 0, .slice none 0 0, .slice (some ⟨w1.heap.size, 0, none⟩) n n, .int .i64 0] 136)) := hk7.alloc _
    have F := hide (show Blk (w7.alloc (.cells #[.slice A7 n c7, .slice none 0 0, .slice none 0 0, .slice (some ⟨w1.heap.size, 0, none⟩) n n, .int .i64 0] 136)) w7.heap.size 136 #[.slice A7 n c7, .slice none 0 0, .slice none 0 0, .slice (some ⟨w1.heap.size, 0, none⟩) n n, .int .i64 0] from Blk.new _ _ _)
    have O9 := hide (O9'.out.kept ((Keeps.refl (fun _ => False) w7).alloc (.cells #[.slice A7 n c7, .slice none 0 0, .slice none 0 0, .slice (some ⟨w1.heap.size, 0, none⟩) n n, .int .i64 0] 136)) (fun _ _ h => h))
    have N9 := hide (N9'.out.kept ((Keeps.refl (fun _ => False) w7).alloc (.cells #[.slice A7 n c7, .slice none 0 0, .slice none 0 0, .slice (some ⟨w1.heap.size, 0, none⟩) n n, .int .i64 0] 136)) (fun h => h))
    have hb9 : w1.heap.size ≤ w7.heap.size := hk7.size
    refine hK.out _ _ hk9 (fun _ => ?_)
    clear hK K
    (try simp only [Act.put, List.setIfInBounds_toArray, List.set_cons_zero, List.set_cons_succ])
    refine wpAnyH_take (i := 8) (v := ?_) rfl (by kernel_rfl) (by kernel_rfl) (by kernel_rfl) (fun _ _ _ h => h) (Or.inl ⟨by first | kernel_rfl | rfl, ?_⟩) (by assumption) ?_; rotate_left; focus (intro w hSw; (try dsimp only at hSw); go_simp; try (with_reducible rfl)); (try simp only [Act.put, List.setIfInBounds_toArray, List.set_cons_zero, List.set_cons_succ])
    refine wpAnyH_take (i := 9) (v := ?_) rfl (by kernel_rfl) (by kernel_rfl) (by kernel_rfl) (fun _ _ _ h => h) (Or.inl ⟨by first | kernel_rfl | rfl, ?_⟩) (by assumption) ?_; rotate_left; focus (intro w hSw; (try dsimp only at hSw); go_simp; try (with_reducible rfl)); (try simp only [Act.put, List.setIfInBounds_toArray, List.set_cons_zero, List.set_cons_succ])
    refine wpAnyH_done (by kernel_rfl) ?_ _
    go_wp2_with fail
    go_ret2
    exact ⟨_, _, _, _, rfl, F.out, by omega, by omega, O9.out.base_le hw1, N9.out, K1.out.trans hk9⟩
end Go.Proofs.Ytidobhflijdccaa
