/-
  sizing.Validate of a configuration that is valid but for its counts.
-/
import Derived.Test.YtgjlibecgkhocaaSw
import Derived.Test.YtgjlibecgkhocaaRu
import Derived.Deep.CutRange
set_option linter.unusedVariables false
set_option linter.unusedSimpArgs false
namespace Go.Proofs.Ytgjlibecgkhocaa
open Go.RowKit Cfp

theorem full_some (d : List Int) (l : List (Int × Int)) (i : Nat) (hd : i < d.length) (hl : i < l.length) (h : l[i].2 < d[i]) : fullB d l = true := by
  unfold fullB
  rw [List.any_eq_true]
  refine ⟨(d[i], l[i]), ?_, by simpa using h⟩
  rw [List.mem_iff_getElem?]
  exact ⟨i, by simp [List.getElem?_zip_eq_some, hd, hl]⟩
theorem full_none (d : List Int) (l : List (Int × Int)) (h : ∀ i (hd : i < d.length) (hl : i < l.length), d[i] ≤ l[i].2) : fullB d l = false := by
  unfold fullB
  rw [List.any_eq_false]
  intro x hx
  obtain ⟨i, hi⟩ := List.mem_iff_getElem?.1 hx
  rw [List.getElem?_zip_eq_some] at hi
  obtain ⟨h1, h2⟩ := hi
  obtain ⟨g1, e1⟩ := List.getElem?_eq_some_iff.1 h1
  obtain ⟨g2, e2⟩ := List.getElem?_eq_some_iff.1 h2
  have := h i g1 g2
  rw [e1, e2] at this
  simp; omega
def fullV (d : List Int) (l : List (Int × Int)) : Int := if fullB d l = true then 7 else 0
theorem fullV_t {d : List Int} {l : List (Int × Int)} (h : fullB d l = true) : fullV d l = 7 := if_pos h
theorem fullV_f {d : List Int} {l : List (Int × Int)} (h : fullB d l = false) : fullV d l = 0 := if_neg (by simp [h])

set_option maxRecDepth 100000 in
set_option maxHeartbeats 1500000 in
theorem svalidate_ok (c : Cfg) (h : Fine c) (l : List (Int × Int)) (hl : classesE l = 0) (hm : Room c l) (C T : Option Addr) (n k j B : Nat) (w : World) (hr : Rd w B C 2 n (clv l)) (hB : B ≤ w.heap.size) :
    Calls Try.prog 27 #[Value.agg #[.int .i64 c.length, .int .i64 c.lateness, .int .i64 c.windows, .int .i64 c.shards, .int .i64 c.spread, .int .i64 c.queue, .int .i64 c.mode, .int .i64 c.slots, .int .i64 c.exact_, .int .u64 c.promote, .int .i64 c.depth, .int .i64 c.width, .int .i64 c.top, .int .i64 c.key, .slice C n k, .slice T 16 j, .int .u64 c.seed]] w fun e w' => e = .returned (.int .i64 (fullV (demand0 c l) l)) ∧ Keeps (fun _ => False) w w' := by
  have HR := hide hr
  have hlen : l.length = n := by have := hr.1; rw [clv_len] at this; omega
  have hdl : (demand0 c l).length = n := by rw [demand0_len]; exact hlen
  obtain ⟨⟨n0, n1⟩, hlb⟩ := classes_bd l hl
  have hn8 : n ≤ 8 := by omega
  have HD := hide (fun W hr' hB' => sdemand_ok c h l hl hm C T n k j B W hr' hB')
  obtain ⟨zs, hzs⟩ : ∃ zs, zs = demand0 c l := ⟨_, rfl⟩
  rw [← hzs] at HD hdl ⊢
  obtain ⟨fv, hfv⟩ : ∃ fv, fv = fullV zs l := ⟨_, rfl⟩
  rw [← hfv]
  have HF := hide hfv
  have HLn := hide hlen
  have HDl := hide hdl
  have bX := hide (Blk.new w 28 #[.int .i64 c.length, .int .i64 c.lateness, .int .i64 c.windows, .int .i64 c.shards, .int .i64 c.spread, .int .i64 c.queue, .int .i64 c.mode, .int .i64 c.slots, .int .i64 c.exact_, .int .u64 c.promote, .int .i64 c.depth, .int .i64 c.width, .int .i64 c.top, .int .i64 c.key, .slice C n k, .slice T 16 j, .int .u64 c.seed])
  have kX := hide ((Keeps.refl (fun _ => False) w).alloc (.cells #[.int .i64 c.length, .int .i64 c.lateness, .int .i64 c.windows, .int .i64 c.shards, .int .i64 c.spread, .int .i64 c.queue, .int .i64 c.mode, .int .i64 c.slots, .int .i64 c.exact_, .int .u64 c.promote, .int .i64 c.depth, .int .i64 c.width, .int .i64 c.top, .int .i64 c.key, .slice C n k, .slice T 16 j, .int .u64 c.seed] 28))
  clear hr hlen n0 n1 hlb hl hm h hzs hfv hdl
  go_enter Try.func27, Try.ntmps27
  go_wp2_with (refine cfg_ld _ rfl bX.out rfl (by rfl) ?_; simp only [Act.put, List.setIfInBounds_toArray, List.set_cons_zero, List.set_cons_succ])
  refine (HD.out _ (HR.out.kept kX.out (fun _ _ h => h)) (Nat.le_trans hB kX.out.size)).mono ?_
  rintro e w2 ⟨g, rfl, hg, nu, k2⟩
  have B2 := hide (bX.out.kept k2 (fun h => h))
  have K2 := hide (kX.out.trans k2)
  have NU := hide nu
  clear nu k2 bX kX HD hg
  go_wp2_with fail
  go_loop [5, 6, 17] (fun _ _ iv => ∃ i : Nat, i ≤ n ∧ iv = .int .i64 i ∧ Hid (∀ q (h1 : q < zs.length) (h2 : q < l.length), q < i → zs[q] ≤ l[q].2)) (fun _ _ iv => n - (intOf iv).toNat)
  case atStart => exact ⟨0, by omega, rfl, hide (fun q _ _ h => by omega)⟩
  case round =>
    obtain ⟨i, hi, rfl, HQ⟩ := hrel
    by_cases hlt : i < n
    · have HLT : Hid (i + 1 ≤ n) := hlt
      have hil : i < l.length := by rw [HLn.out]; exact hlt
      have hiz : i < zs.length := by rw [HDl.out]; exact hlt
      have hz := NU.out.cell i hiz
      obtain ⟨z, hze⟩ : ∃ z, z = zs.getD i 0 := ⟨_, rfl⟩
      rw [← hze] at hz
      have hze' : zs[i] = z := by rw [hze]; simp [List.getD, hiz]
      obtain ⟨x, hx⟩ : ∃ x, l[i]? = some x := ⟨l[i]'hil, by simp⟩
      have hcl : l[i] = x := by rw [List.getElem?_eq_getElem hil] at hx; injection hx
      obtain ⟨b, off, rfl, hbB, hcell⟩ := (HR.out.kept K2.out (fun _ _ h => h)).2 (by omega)
      obtain ⟨g1, g2⟩ := clv_at l i x hx
      have f2 := hcell _ _ g2
      rw [← Nat.add_assoc] at f2
      have q14 : w2.cell? ⟨w.heap.size, 14, none⟩ = some (.slice (some ⟨b, off, none⟩) n k) := B2.out.cell 14
      have hiI : (i : Int) < (n : Int) := by omega
      have hi0 : (0 : Int) ≤ (i : Int) := by omega
      have HZ := hide hze'
      have HX := hide hcl
      clear hze hze' hx hcl hcell g1 g2
      by_cases hlt2 : x.2 < z
      · have HV := hide (show fv = 7 by rw [HF.out]; exact fullV_t (full_some zs l i hiz hil (by rw [HZ.out, HX.out]; exact hlt2)))
        go_wp2_with fail
        go_ret
        exact ⟨ret_int HV.out.symm, K2.out⟩
      · have hlt3 : z ≤ x.2 := by omega
        go_wp2_with fail
        go_round
        case rel =>
          refine ⟨i + 1, HLT.out, by go_num, hide (fun q h1 h2 hq => ?_)⟩
          rcases Nat.lt_or_ge q i with h | h
          · exact HQ.out q h1 h2 h
          · obtain rfl : q = i := by omega
            rw [HZ.out, HX.out]; exact hlt3
        case measure => have := HLT.out; simp [intOf]; omega
    · have HV := hide (show fv = 0 by rw [HF.out]; exact fullV_f (full_none zs l (fun q h1 h2 => HQ.out q h1 h2 (by rw [HDl.out] at h1; omega))))
      go_wp2_with fail
      go_ret
      exact ⟨ret_int HV.out.symm, K2.out⟩

end Go.Proofs.Ytgjlibecgkhocaa
