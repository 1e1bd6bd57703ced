/-
  The reference's Bounds by its contract. No conditions beyond those of the statement.
-/
import Derived.Test.YtaiopdipldaimaaZe
set_option linter.unusedVariables false
set_option linter.unusedSimpArgs false
namespace Go.Proofs.Ytaiopdipldaimaa
open Go.RowKit Cfp
set_option maxRecDepth 100000 in
set_option maxHeartbeats 1000000 in
theorem rbounds_any (w : World) (B : Nat) (c : Cfg) (C T : Option Addr) (n0 k0 q j : Nat) (zs : List Int) (ht : Rd w B T 1 q (zs.map (.int .u64))) (hzb : ∀ z ∈ zs, 0 ≤ z ∧ z < 18446744073709551616) (hs : 0 ≤ c.seed ∧ c.seed < 18446744073709551616)
    (tot un : Int) (A R : Option Addr) (n cA m cR : Nat) (l : List Ln) (F : RowsF) (h : SmIn w B A n l R m F) (hB : B ≤ w.heap.size) (k : ByteArray) (hk : k.size ≤ 140737488351232) :
    Calls Try.prog 43 #[Value.agg #[.int .i64 c.length, .int .i64 c.lateness, .int .i64 c.windows, .int .i64 c.shards, .int .i64 c.spread, .int .i64 c.queue, .int .i64 c.mode, .int .i64 c.slots, .int .i64 c.exact_, .int .u64 c.promote, .int .i64 c.depth, .int .i64 c.width, .int .i64 c.top, .int .i64 c.key, .slice C n0 k0, .slice T q j, .int .u64 c.seed], smV tot A n cA un R m cR, .string k] w fun e w' => e = .returned (.tuple #[bnd (imin (loS l k) (estS tot m F zs c.seed k.data.toList)) (imin (hiS l un k) (estS tot m F zs c.seed k.data.toList)), .bool (decide (keyAt l k < n))]) ∧ Keeps (fun _ => False) w w' := by
  obtain ⟨w4, hw4⟩ : ∃ w4, w4 = ((w.alloc (.cells #[.int .i64 c.length, .int .i64 c.lateness, .int .i64 c.windows, .int .i64 c.shards, .int .i64 c.spread, .int .i64 c.queue, .int .i64 c.mode, .int .i64 c.slots, .int .i64 c.exact_, .int .u64 c.promote, .int .i64 c.depth, .int .i64 c.width, .int .i64 c.top, .int .i64 c.key, .slice C n0 k0, .slice T q j, .int .u64 c.seed] 51)).alloc (.cells (smC tot A n cA un R m cR) 45)).alloc (.cells (bndC 0 0) 81) := ⟨_, rfl⟩
  obtain ⟨g, hg⟩ : ∃ g, g = w.heap.size := ⟨_, rfl⟩
  have k4 : Keeps (fun _ => False) w w4 := by rw [hw4]; exact (((Keeps.refl _ _).alloc _).alloc _).alloc _
  have b3 : Blk w4 g 51 #[.int .i64 c.length, .int .i64 c.lateness, .int .i64 c.windows, .int .i64 c.shards, .int .i64 c.spread, .int .i64 c.queue, .int .i64 c.mode, .int .i64 c.slots, .int .i64 c.exact_, .int .u64 c.promote, .int .i64 c.depth, .int .i64 c.width, .int .i64 c.top, .int .i64 c.key, .slice C n0 k0, .slice T q j, .int .u64 c.seed] := by rw [hw4, hg]; exact ((Blk.new _ _ _).alloc _).alloc _
  have b4 : Blk w4 (g + 1) 45 (smC tot A n cA un R m cR) := by rw [hw4, hg]; exact (Blk.new_at _ _ _ _ (by simp)).alloc _
  have b6 : Blk w4 (g + 1 + 1) 81 (bndC 0 0) := by rw [hw4, hg]; exact Blk.new_at _ _ _ _ (by simp)
  have h4 := h.kept k4 (fun _ _ h => h)
  have t4 := ht.kept k4 (fun _ _ h => h)
  have HE := hide (fun W (kW : Keeps (fun _ => False) w4 W) => rest_any W B c C T n0 k0 q j zs (t4.kept kW (fun _ _ h => h)) hzb hs tot un A R n cA m cR l F (h4.kept kW (fun _ _ h => h)) k hk)
  obtain ⟨est, hest⟩ : ∃ est, est = estS tot m F zs c.seed k.data.toList := ⟨_, rfl⟩
  rw [← hest] at HE ⊢
  obtain ⟨LO, hLO⟩ : ∃ v, v = loS l k := ⟨_, rfl⟩
  obtain ⟨HI, hHI⟩ : ∃ v, v = hiS l un k := ⟨_, rfl⟩
  obtain ⟨FB, hFB⟩ : ∃ v, v = decide (keyAt l k < n) := ⟨_, rfl⟩
  rw [← hLO, ← hHI, ← hFB]
  have HLO := hide hLO
  have HHI := hide hHI
  have HFB := hide hFB
  clear hLO hHI hFB
  have B3 := hide b3
  have B4 := hide b4
  have B6 := hide b6
  have K4 := hide k4
  have H4 := hide h4
  have hX6 := b6.lt
  have c41 : w4.cell? ⟨g + 1, 1, none⟩ = some (.slice A n cA) := b4.cell 1
  have HW4 := hide hw4
  have HG := hide hg
  clear hw4 b3 b4 b6 k4 h4 t4 h ht hzb hest hg
  go_enter Try.func43, Try.ntmps43
  go_upto_region 1 with fail
  rw [← HW4.out]
  trace "R1"
  have HGs : Hid (w.heap.size = g) := hide HG.out.symm
  clear HW4 HG
  generalize hgs : w.heap.size = gs at *
  obtain rfl : gs = g := HGs.out
  clear HGs
  have hn1 := H4.out.n1
  go_wp2_with fail
  trace "LOOP"
  go_loopw [9, 13] (fun _ iv wr => ∃ i : Nat, i ≤ n ∧ iv = .int .i64 i ∧ Hid (∀ (j : Nat) (d : Ln), j < i → l[j]? = some d → (d.key.toList == k.toList) = false) ∧ Hid (Keeps (fun _ => False) w4 wr)) (fun _ iv _ => n - (intOf iv).toNat)
  case atStart => exact ⟨0, by omega, rfl, hide (fun j d h => by omega), hide (Keeps.refl _ _)⟩
  case round =>
    obtain ⟨i, hi, rfl, HJ, KR⟩ := hrel
    have hsr := KR.out.size
    have H4r := hide (H4.out.kept KR.out (fun _ _ h => h))
    have B3r := hide (B3.out.kept KR.out (fun h => h))
    have B4r := hide (B4.out.kept KR.out (fun h => h))
    have B6r := hide (B6.out.kept KR.out (fun h => h))
    by_cases hlt : i < n
    · have HLT : Hid (i + 1 ≤ n) := hlt
      have hil : i < l.length := by rw [H4.out.len]; exact hlt
      obtain ⟨x, hx⟩ : ∃ x, l[i]? = some x := ⟨l[i]'hil, by simp⟩
      obtain ⟨b, off, rfl, hbB, c0, c1, c2⟩ := lnRd_at H4r.out.ents hx (by omega)
      have hiI : (i : Int) < (n : Int) := by omega
      have hi0 : (0 : Int) ≤ (i : Int) := by omega
      have HU := hide (H4.out.num x (List.mem_of_getElem? hx))
      have HX := hide hx
      have b9 := Blk.new wr 99 #[.string x.key, .int .u64 x.lo, .int .u64 x.hi]
      have kN := (Keeps.refl (fun _ => False) wr).alloc (.cells #[.string x.key, .int .u64 x.lo, .int .u64 x.hi] 99)
      have d0 : (wr.alloc (.cells #[.string x.key, .int .u64 x.lo, .int .u64 x.hi] 99)).cell? ⟨wr.heap.size, 0, none⟩ = some (.string x.key) := b9.cell 0
      have B9 := hide b9
      have KN := hide (KR.out.trans kN)
      have KN1 := hide kN
      clear hil hx b9 kN
      by_cases hs : (x.key.toList == k.toList) = true
      · have hp : keyAt l k = i := keyAt_lt HX.out hs HJ.out
        have HLO' : Hid (LO = x.lo) := hide (by have := HLO.out; unfold loS at this; rw [hp, HX.out] at this; exact this)
        have HHI' : Hid (HI = Sat.add x.lo x.hi) := hide (by have := HHI.out; unfold hiS at this; rw [hp, HX.out] at this; exact this)
        have HFB' : Hid (FB = true) := hide (by rw [HFB.out, hp]; simp [hlt])
        clear hp
        go_upto_region 5 with fail
        trace "R5"
        have B3n := hide (B3r.out.kept KN1.out (fun h => h))
        have B4n := hide (B4r.out.kept KN1.out (fun h => h))
        have B6n := hide (B6r.out.kept KN1.out (fun h => h))
        have HEn := hide (fun W (kW : Keeps (fun _ => False) _ W) => HE.out W (KN.out.trans kW))
        have KW : Hid (Keeps (· = gs + 1 + 1) w _) := hide ((Keeps.refl (· = gs + 1 + 1) w).step (K4.out.trans KN.out) (fun _ _ h => h.elim))
        refine Code.wp_mono ?_ (rbd.reg5 _ gs (gs + 1) (gs + 1 + 1) wr.heap.size c C T n0 k0 q j tot un _ R n cA m cR k x ⟨HU.out.1, HU.out.2.1⟩ est HEn B3n.out B4n.out B6n.out B9.out (by omega) _ _ _ _ _ _ _ _ _ _ _ _ _ _ _ _ _ _ _ _ _ _ _ _ _ _ _ _ _ _ _ _)
        intro e a' w9 hex
        cases e <;> (first | exact hex.elim | skip)
        obtain ⟨⟨b6, k9⟩, ⟨u21, u22, u23, u24, u25, u26, u27, rfl⟩⟩ := hex
        have q0 := b6.cell 0
        have q1 := b6.cell 1
        have K9 := hide ((KW.out).step k9 (fun _ _ e => e))
        clear b6 k9
        dsimp only
        trace "LAST"
        go_wp2_with fail
        refine bodyPost_ret (v := .tuple #[bnd (imin LO est) (imin HI est), .bool FB]) (by rw [HLO'.out, HHI'.out, HFB'.out]; simp [results, Try.results43, go_sem, q0, q1]) rfl ⟨rfl, ?_⟩
        exact (Keeps.refl (fun _ => False) w).step K9.out (fun b hb e => by omega)
      · have hs : (x.key.toList == k.toList) = false := by simpa using hs
        have HS := hide hs
        go_wp2_with fail
        go_roundw
        case rel =>
          refine ⟨i + 1, HLT.out, by go_num, hide (fun j d hj hd => ?_), KN⟩
          rcases Nat.lt_or_ge j i with h | h
          · exact HJ.out j d h hd
          · obtain rfl : j = i := by omega
            rw [HX.out] at hd; injection hd with hd; subst hd; exact HS.out
        case measure => have := HLT.out; simp [intOf]; omega
    · obtain rfl : i = n := by omega
      have hp : keyAt l k = l.length := keyAt_no (fun j d hd => HJ.out j d (by rw [← H4.out.len]; exact (List.getElem?_eq_some_iff.1 hd).1) hd)
      have HLO' : Hid (LO = 0) := hide (by have := HLO.out; unfold loS at this; rw [hp, List.getElem?_eq_none (by omega)] at this; exact this)
      have HHI' : Hid (HI = un) := hide (by have := HHI.out; unfold hiS at this; rw [hp, List.getElem?_eq_none (by omega)] at this; exact this)
      have HFB' : Hid (FB = false) := hide (by rw [HFB.out, hp, H4.out.len]; simp)
      clear hp
      go_upto_region 7 with fail
      trace "R7"
      have HEn := hide (fun W (kW : Keeps (fun _ => False) wr W) => HE.out W (KR.out.trans kW))
      have KW : Hid (Keeps (· = gs + 1 + 1) w wr) := hide ((Keeps.refl (· = gs + 1 + 1) w).step (K4.out.trans KR.out) (fun _ _ h => h.elim))
      refine Code.wp_mono ?_ (rbd.reg7 _ gs (gs + 1) (gs + 1 + 1) c C T n0 k0 q j tot un _ R _ cA m cR k est HEn B3r.out B4r.out B6r.out (by omega) _ _ _ _ _ _ _ _ _ _ _ _ _ _ _ _ _ _ _ _ _ _ _ _ _ _ _ _ _ _ _ _ _)
      intro e a' w9 hex
      cases e <;> (first | exact hex.elim | skip)
      obtain ⟨⟨b6, k9⟩, ⟨u29, u30, u31, u32, u33, u34, u35, u36, rfl⟩⟩ := hex
      have q0 := b6.cell 0
      have q1 := b6.cell 1
      have K9 := hide ((KW.out).step k9 (fun _ _ e => e))
      clear b6 k9
      dsimp only
      trace "LAST"
      go_wp2_with fail
      refine bodyPost_ret (v := .tuple #[bnd (imin LO est) (imin HI est), .bool FB]) (by rw [HLO'.out, HHI'.out, HFB'.out]; simp [results, Try.results43, go_sem, q0, q1]) rfl ⟨rfl, ?_⟩
      exact (Keeps.refl (fun _ => False) w).step K9.out (fun b hb e => by omega)
end Go.Proofs.Ytaiopdipldaimaa
