
/-
  ArenaSteps: the walk. No conditions beyond those of the statement.
-/
import Derived.Test.YtidobhflijdccaaJn
import Derived.Test.YtidobhflijdccaaArgI
import Derived.Test.YtidobhflijdccaaSame
import Derived.Deep.CutRange
import Derived.Deep.CutBlock
set_option linter.unusedVariables false
set_option linter.unusedSimpArgs false
namespace Go.Proofs.Ytidobhflijdccaa
open Go.RowKit Cfp
namespace arenaSteps
def CutA (w : World) (B0 a lo b g : Nat) (x : Hi) (M : Int) (N : Nat) (H : List Hi) (D : Option Addr) (n m : Nat) (v : Int) (sv hv : Value) (wx : World) : Prop :=
  ∃ (gh : Nat) (y : Hi), sv = .int .i64 v ∧ hv = .pointer (some ⟨gh, 0, none⟩) ∧ Blk wx gh 40 (hiC y).toArray ∧ Mid w B0 a lo b g x M N H D n m wx
theorem Mid.above {w wx wy : World} {B0 lo g n m a b N q : Nat} {M : Int} {x : Hi} {H : List Hi} {D : Option Addr} (h : Mid w B0 a lo b g x M N H D n m wx) {cs : Array Value} (hb : Blk wx q 40 cs) (k : Keeps (· = q) wx wy) (hq : lo ≤ q) (hD : ¬ inB D q) : Mid w B0 a lo b g x M N H D n m wy := by
  obtain ⟨h1, s, L, ρ, i1, i2, i3, i4, i5, i6⟩ := h
  refine ⟨⟨h1.own.kept k (fun p hp e => hD (e ▸ hp)), h1.len, h1.k.step k (fun p hp e => by have := h1.wl; omega), h1.raw.kept k (fun e => by have := h1.gl; omega), h1.gl, h1.wl, h1.lb, Nat.le_trans h1.bx k.size⟩, s, L, ρ, i1.kept k (fun p e => ?_), i2, i3.kept k (fun p e => ?_), i4, i5, i6⟩
  · subst e; exact .inr ⟨_, _, hb, by decide, by decide, by decide, by decide⟩
  · subst e; exact .inr ⟨_, _, hb, by decide, by decide, by decide, by decide, by decide⟩
theorem Mid.app {w wx wy : World} {B0 lo g n m a b N c : Nat} {M : Int} {x y : Hi} {H : List Hi} {D A : Option Addr} (h : Mid w B0 a lo b g x M N H D n m wx) (k : Keeps (inB D) wx wy) (o : Own wy lo 40 3 A (n + 1) c (hiCs H ++ [.int .i64 y.1, .int .i64 y.2.1, .int .i64 y.2.2])) : Mid w B0 a lo b g x M N (H ++ [y]) A (n + 1) c wy := by
  obtain ⟨h1, s, L, ρ, i1, i2, i3, i4, i5, i6⟩ := h
  refine ⟨⟨by rw [hiCs_app]; exact o, by simp [h1.len], h1.k.step k (fun p hp e => by have := h1.own.inB e; have := h1.wl; omega), h1.raw.kept k (fun e => by have := h1.own.inB e; have := h1.gl; omega), h1.gl, h1.wl, h1.lb, Nat.le_trans h1.bx k.size⟩, s, L, ρ, i1.kept k (fun p e => ?_), i2, i3.kept k (fun p e => ?_), i4, i5, i6⟩
  · obtain ⟨cs, hb⟩ := h1.own.blk e; exact .inr ⟨_, _, hb, by decide, by decide, by decide, by decide⟩
  · obtain ⟨cs, hb⟩ := h1.own.blk e; exact .inr ⟨_, _, hb, by decide, by decide, by decide, by decide, by decide⟩
theorem run_make8 (n : Nat) (hn : n ≤ 65536) (w : World) : (Instr.makeSlice 54 (.int .i64 (n : Int)) (.int .i64 (n : Int))).run Try.prog w = .ok (.slice (some ⟨w.heap.size, 0, none⟩) n n) (w.alloc (.cells (List.replicate n (.int .u8 0)).toArray 5)) := by
  have hi : (Try.prog.info? 5).map (fun i => (i.zero, i.size, i.bytes)) = some (some (.int .u8 0), 1, 1) := by kernel_rfl
  obtain ⟨i, h1, h2, h3, h4⟩ := info_parts hi
  have hr := run_make (P := Try.prog) w 54 5 i (.int .u8 0) Try.underlying54 h1 h2 .i64 .i64 (n : Int) (n : Int) (by omega) (by omega) (by rw [h4]; omega) (by omega)
  rw [hr, Int.toNat_natCast, h3, Nat.mul_one]
  have : madeCells (Value.int .u8 0).cells n = (List.replicate n (Value.int .u8 0)).toArray := by
    apply Array.ext'
    rw [show (Value.int .u8 0).cells = #[Value.int .u8 0] from rfl]
    refine List.ext_getElem (by simp [madeCells]) (fun j h1 h2 => ?_)
    simp [madeCells, Nat.mod_one]
  rw [this]
theorem own_setB {wr : World} {base gc nn m : Nat} {bs : List UInt8} (o : Own wr base 5 1 (some ⟨gc, 0, none⟩) nn m (bs.map by8)) (k : Nat) (z : Int) : Own (wr.setCell ⟨gc, k, none⟩ (.int .u8 (IntKind.u8.wrap z))) base 5 1 (some ⟨gc, 0, none⟩) nn m ((bs.set k (dB z)).map by8) := by
  rw [List.map_set, by8_dB]
  exact o.store k _
set_option maxRecDepth 1000000 in
set_option maxHeartbeats 4000000 in
theorem main (w : World) (A1 : Option Addr) (n1 c1 : Nat) (zs : List Int) (hd : Rd w w.heap.size A1 1 n1 (zs.map (.int .i64))) (hz : ∀ z ∈ zs, -9223372036854775808 ≤ z ∧ z < 9223372036854775808) (hn1 : n1 ≤ 17592186043904)
    (A2 : Option Addr) (n2 c2 : Nat) (z2 : List Int) (hd2 : Rd w w.heap.size A2 1 n2 (z2.map (.int .i64))) (hz2 : ∀ z ∈ z2, -9223372036854775808 ≤ z ∧ z < 9223372036854775808) (hn2 : n2 ≤ 17592186043904) (x : Hi) :
    Calls Try.prog 5 #[.slice A1 n1 c1, .slice A2 n2 c2, .agg (hiC x).toArray] w fun e w' => e = .returned (.bool true) ∧ Keeps (fun _ => False) w w' := by
  obtain ⟨g, hg⟩ : ∃ g, g = w.heap.size := ⟨_, rfl⟩
  obtain ⟨w0, hw0⟩ : ∃ w0, w0 = w.alloc (.cells (hiC x).toArray 40) := ⟨_, rfl⟩
  have HP0 : Hid (Blk w0 g 40 (hiC x).toArray) := hide (by rw [hw0, hg]; exact Blk.new _ _ _)
  have K0 : Hid (Keeps (fun _ => False) w w0) := hide (by rw [hw0]; exact (Keeps.refl _ _).alloc _)
  have HD := hide hd
  have HD2 := hide hd2
  have HZ2 := hide hz2
  have HL2 : Hid (z2.length = n2) := hide (by simpa using hd2.1)
  have HG := hide hg
  have HW0 := hide hw0
  unfold hiC at HW0 ⊢
  clear hd hd2 hz2 hg hw0
  go_enter Try.func5, Try.ntmps5
  go_upto_region 1 with fail
  rw [← HG.out, ← HW0.out]
  go_wp2_with fail
  refine (new_deck A1 n1 c1 zs w.heap.size w0 K0.out.size (HD.out.kept K0.out (fun _ _ h => h)) hz (by omega)).mono ?_
  rintro e w1 ⟨rfl, d1, k1⟩
  have K1 := hide (K0.out.trans k1)
  have HP1 := hide (HP0.out.kept k1 (fun h => h))
  have gl1 := d1.lt
  have gw1 : w0.heap.size ≤ w1.heap.size := k1.size
  clear k1
  go_wp2_with fail
  refine (two_any w.heap.size w0.heap.size w1 d1).mono ?_
  rintro e w2 ⟨a, b, D, cD, q, CA, cap, l, n, B0, rfl, hB0, hB2, hA, hln, hn4, hE, hlb, hb, hbb, hqq, ho, hq, _, k2⟩
  obtain ⟨lo, hlo⟩ : ∃ lo, lo = w1.heap.size := ⟨_, rfl⟩
  have HM : Hid (Mid w B0 a lo b g x 0 0 [] none 0 0 w2) := hide ⟨⟨Own.nil _ _ _ _, rfl, K1.out.step k2 (fun p hp e => by have := K0.out.size; omega), HP1.out.kept k2 (fun e => by have := HP0.out.lt; omega), by have := HP1.out.lt; omega, by rw [hlo]; exact K1.out.size, by omega, hB2⟩,
    both_new l n hln hE CA cap hA hb (by omega) (by omega) (fun k hk => by have := ho.inB hk; omega) (ho.base_le (Nat.zero_le _)) hq⟩
  clear hA hb ho hq hE hlb k2 hlo HP1 K1 HP0 K0 HW0 d1
  go_upto_region 7 with fail
  trace "LOOP"
  go_loopw [11, 12, 13, 14, 15, 16, 17, 18, 19, 20, 21, 22, 23, 24, 25] (fun lv iv _ _ _ _ _ _ _ _ _ _ _ _ _ wr => ∃ (i : Nat) (H : List Hi) (D : Option Addr) (n m : Nat), i ≤ 60 ∧ n ≤ i ∧ lv = .slice D n m ∧ iv = .int .i64 (i : Int) ∧ Hid (Mid w B0 a lo b g x i i H D n m wr)) (fun _ iv _ _ _ _ _ _ _ _ _ _ _ _ _ _ => 60 - (intOf iv).toNat)
  case atStart => exact ⟨0, [], none, 0, 0, by omega, by omega, rfl, rfl, HM⟩
  case round =>
    obtain ⟨i, H, D3, n3, m3, hi, hni, rfl, rfl, HR⟩ := hrel
    obtain ⟨wo, rfl⟩ : ∃ wo : World, wo = wr := ⟨_, rfl⟩
    clear HM
    by_cases hlt : i < n2 ∧ i < 60
    · obtain ⟨hlt1, hlt2⟩ := hlt
      have e1 : decide ((i : Int) < (n2 : Int)) = true := by simpa using hlt1
      have e2 : decide ((i : Int) < 60) = true := by simp; omega
      obtain ⟨b2, off2, rfl, hb2, hcell⟩ := (HD2.out.kept HR.out.1.k (fun _ _ h => h)).2 (by omega)
      obtain ⟨v, hv⟩ : ∃ v, z2[i]? = some v := ⟨z2[i]'(by rw [HL2.out]; omega), List.getElem?_eq_getElem _⟩
      have hc1 := hcell i (.int .i64 v) (by rw [List.getElem?_map, hv]; rfl)
      have hvb := HZ2.out v (List.mem_of_getElem? hv)
      have hi3 : (i : Int) < (n2 : Int) := by omega
      clear hcell hv
      obtain ⟨gh, hgh⟩ : ∃ gh, gh = wo.heap.size := ⟨_, rfl⟩
      obtain ⟨w5, hw5⟩ : ∃ w5, w5 = wo.alloc (.cells (hiC x).toArray 40) := ⟨_, rfl⟩
      have k5 : Keeps (fun _ => False) wo w5 := by rw [hw5]; exact (Keeps.refl _ _).alloc _
      have HB5 : Hid (Blk w5 gh 40 (hiC x).toArray) := hide (by rw [hw5, hgh]; exact Blk.new _ _ _)
      have HM5 := hide (HR.out.quiet k5)
      have HGL : Hid (B0 ≤ gh) := hide (by rw [hgh]; exact HR.out.1.bx)
      have HDN : Hid (¬ inB D3 gh) := hide (fun h => by have := HR.out.1.own.inB h; omega)
      have HGH := hide hgh
      have HW5 := hide hw5
      unfold hiC at HW5
      obtain ⟨⟨r0, r1, r2⟩, _, rl⟩ := (show Blk wo g 40 #[.int .i64 x.1, .int .i64 x.2.1, .int .i64 x.2.2] from HR.out.1.raw).three
      clear hgh hw5 k5
      obtain ⟨kk, hkk⟩ : ∃ kk : Nat, v / 8 % 32 = (kk : Int) := ⟨(v / 8 % 32).toNat, by have := Int.emod_nonneg (v / 8) (show (32 : Int) ≠ 0 by omega); omega⟩
      have HKK := hide hkk
      clear hkk
      have h31 := i64_and31
      go_upto_region 11 with fail
      rw [← HW5.out, ← HGH.out]
      clear HW5 HGH r0 r1 r2 rl hc1
      go_upto_region 12 with fail
      rw [HKK.out]
      clear HKK
      go_upto_if 57 with fail
      go_cut [] from 36 to 162 (fun wx => ∃ y : Hi, Blk wx gh 40 (hiC y).toArray ∧ Mid w B0 a lo b g x i i H D3 n3 m3 wx)
      case first =>
        by_cases hkn : kk < n3
        · have e3 : decide (kk < n3) = true := by simpa using hkn
          have e3i : decide ((kk : Int) < (n3 : Int)) = true := by simpa using hkn
          obtain ⟨y, hy⟩ : ∃ y, H[kk]? = some y := ⟨H[kk]'(by rw [HM5.out.1.len]; exact hkn), by simp⟩
          obtain ⟨g0, g1, g2⟩ := hiCs_at hy
          obtain ⟨C3, rfl, _, hC3⟩ := HM5.out.1.own.some_ (by omega)
          have OI := HM5.out.1.own
          have q0 := OI.cell (kk * 3) (by omega)
          have q1 := OI.cell (kk * 3 + 1) (by omega)
          have q2 := OI.cell (kk * 3 + 2) (by omega)
          rw [g0] at q0
          rw [g1] at q1
          rw [g2] at q2
          obtain ⟨_, ⟨f0, f1, f2⟩, rl⟩ := (show Blk w5 gh 40 #[.int .i64 x.1, .int .i64 x.2.1, .int .i64 x.2.2] from HB5.out).three
          have hkI : (kk : Int) < (n3 : Int) := by omega
          have hk0 : (0 : Int) ≤ (kk : Int) := by omega
          have HS := hide (HB5.out.set3 (.int .i64 y.1) (.int .i64 y.2.1) (.int .i64 y.2.2))
          have HKS := hide (keeps3 w5 gh (.int .i64 y.1) (.int .i64 y.2.1) (.int .i64 y.2.2))
          clear hy g0 g1 g2 OI
          go_wp2_with fail
          all_goals
            go_meet
            exact ⟨y, HS.out, HM5.out.above HB5.out HKS.out (by have := HM5.out.1.lb; have := HGL.out; omega) HDN.out⟩
        · have e3 : decide (kk < n3) = false := by simpa using hkn
          have e3i : decide ((kk : Int) < (n3 : Int)) = false := by simp; omega
          go_wp2_with fail
          all_goals
            go_meet
            exact ⟨x, HB5.out, HM5.out⟩
      case rest =>
      obtain ⟨y, hy, hm⟩ := hcut
      have HY := hide hy
      have HM := hide hm
      clear hy hm HB5 HM5 HR e1 e2 hi3 h31
      obtain ⟨w6, rfl⟩ : ∃ w6 : World, w6 = wc := ⟨_, rfl⟩
      trace "REST"
      have h7 := i64_and7
      obtain ⟨r, hr, hr8⟩ : ∃ r : Nat, v % 8 = (r : Int) ∧ r < 8 := ⟨(v % 8).toNat, by omega, by omega⟩
      have HRr := hide hr
      clear hr
      go_upto_block 2 with fail
      rw [HRr.out]
      clear HRr h7
      go_cut [11, 16, 17, 18, 19, 20, 21, 22, 23, 24, 25] from 64 to 162 (fun lv _ _ _ _ _ _ _ _ _ _ wx => ∃ (H : List Hi) (D : Option Addr) (n m : Nat), lv = .slice D n m ∧ n ≤ i + 1 ∧ Mid w B0 a lo b g x ((i + 1 : Nat) : Int) (i + 1) H D n m wx)
      case first =>
        have hi1 : ((i + 1 : Nat) : Int) = (i : Int) + 1 := by omega
        go_upto_if 85 with fail
        go_cut [85] from 86 to 88 (fun b wx => b = .bool (decide (r ≤ 2)) ∧ wx = w6)
        case first =>
          rcases (by omega : r = 0 ∨ r = 1 ∨ r = 2 ∨ 2 < r) with rfl | rfl | rfl | h2
          · go_wp2_with fail
            all_goals
              go_meet
              exact ⟨rfl, rfl⟩
          · go_wp2_with fail
            all_goals
              go_meet
              exact ⟨rfl, rfl⟩
          · go_wp2_with fail
            all_goals
              go_meet
              exact ⟨rfl, rfl⟩
          · have f0 : ((r : Int) == 0) = false := by simp; omega
            have f1 : ((r : Int) == 1) = false := by simp; omega
            have f2 : ((r : Int) == 2) = false := by simp; omega
            go_wp2_with fail
            all_goals
              go_meet
              exact ⟨by simp; omega, rfl⟩
        case rest =>
        obtain ⟨rfl, hwc⟩ := hcut
        subst hwc
        obtain ⟨w6, rfl⟩ : ∃ w6 : World, w6 = wc := ⟨_, rfl⟩
        by_cases hr2 : r ≤ 2
        · have e8 : decide (r ≤ 2) = true := by simpa using hr2
          rw [e8]
          have h127 := i64_and127
          go_upto_region 22 with fail
          trace "R22"
          go_wp2_with fail
          refine (alloc_both HM.out.2 ⟨by omega, by omega⟩ (by omega) HM.out.1.bx (fun p hp => by have := HM.out.1.lb; have := HM.out.1.bx; omega) _).mono ?_
          rintro e wa ⟨hc, hk, hge, er, rfl, ka, ha⟩
          have RA := hide (HM.out.1.ar ka)
          have HA := hide ha
          clear ka ha
          obtain ⟨gx, hgx⟩ : ∃ gx, gx = wa.heap.size := ⟨_, rfl⟩
          obtain ⟨wb, hwb⟩ : ∃ wb, wb = wa.alloc (.cells #[.int .i64 hc, .int .i64 hk, .int .i64 hge] 40) := ⟨_, rfl⟩
          have kb : Hid (Keeps (fun _ => False) wa wb) := hide (by rw [hwb]; exact (Keeps.refl _ _).alloc _)
          have XB : Hid (Blk wb gx 40 #[.int .i64 hc, .int .i64 hk, .int .i64 hge]) := hide (by rw [hwb, hgx]; exact Blk.new _ _ _)
          have RB := hide (RA.out.quiet kb.out)
          have HGX := hide hgx
          have HWB := hide hwb
          clear hgx hwb RA
          go_upto_region 23 with fail
          rw [← HWB.out, ← HGX.out]
          clear HWB HGX
          go_wp2_with fail
          refine (HA.out wb kb.out).mono ?_
          rintro e wd ⟨rfl, bd, kd⟩
          have RD := hide (RB.out.rs kd)
          have XD := hide (XB.out.kept kd (RS.hand XB.out (.inl rfl)))
          obtain ⟨gy, hgy⟩ : ∃ gy, gy = wd.heap.size := ⟨_, rfl⟩
          obtain ⟨we, hwe⟩ : ∃ we, we = wd.alloc (.cells #[.int .i64 hc, .int .i64 hk, .int .i64 hge] 40) := ⟨_, rfl⟩
          have ke : Keeps (fun _ => False) wd we := by rw [hwe]; exact (Keeps.refl _ _).alloc _
          have YE : Hid (Blk we gy 40 #[.int .i64 hc, .int .i64 hk, .int .i64 hge]) := hide (by rw [hwe, hgy]; exact Blk.new _ _ _)
          have XE := hide (XD.out.kept ke (fun h => h))
          have HME : Hid (Mid w B0 a lo b g x ((i : Int) + 1) (i + 1) H D3 n3 m3 we) := hide ⟨RD.out.quiet ke, Both.quiet bd ke⟩
          have HGY := hide hgy
          have HWE := hide hwe
          clear hgy hwe ke bd kd RB RD XB XD HA kb HM HY
          go_upto_region 24 with fail
          rw [← HWE.out, ← HGY.out]
          clear HWE HGY
          trace "R24"
          obtain ⟨⟨p0, p1, p2⟩, _, pl⟩ := XE.out.three
          obtain ⟨⟨q0, q1, q2⟩, _, ql⟩ := YE.out.three
          by_cases her : er = 0
          · subst her
            have hle := HME.out.1.own.le
            have hbx : lo ≤ we.heap.size := Nat.le_trans HME.out.1.lb HME.out.1.bx
            go_wp2_with (at_builtin; refine wpList_app _ elemH rfl (.tmp 115) (.tmp 117) rfl lo _ rfl (HME.out.1.own.kept ((Keeps.refl (fun _ => False) we).alloc _) (fun _ _ h => h)) _ (m := 1) [.int .i64 hc, .int .i64 hk, .int .i64 hge] rfl (by exact Blk.rd (xs := [.int .i64 hc, .int .i64 hk, .int .i64 hge]) (Blk.new_at _ _ _ _ (by simp)) rfl) (by simp [Value.oneCell']) (by simp only [maxLen]; omega) (by omega) (by simp; omega) ?_; intro A7 c7 wf o7 k7 hA7; have HF := hide ((HME.out.quiet ((Keeps.refl (fun _ => False) we).alloc _)).app (y := (hc, hk, hge)) k7 o7); clear o7 k7 hA7)
            trace "APP"
            all_goals
              go_meet
              exact ⟨_, _, _, _, rfl, by omega, by rw [hi1]; exact HF.out⟩
          · have ef : (er == 0) = false := by simpa using her
            go_wp2_with fail
            trace "NOAPP"
            all_goals
              go_meet
              exact ⟨H, D3, n3, m3, rfl, by omega, by rw [hi1]; exact HME.out⟩
        · have e8 : decide (r ≤ 2) = false := by simpa using hr2
          rw [e8]
          have f3' : 2 < r := by omega
          clear hr2 e8
          go_upto_if 119 with fail
          go_cut [119] from 120 to 121 (fun b wx => b = .bool (decide (r ≤ 4)) ∧ wx = w6)
          case first =>
            rcases (by omega : r = 3 ∨ r = 4 ∨ 4 < r) with rfl | rfl | h2
            · go_wp2_with fail
              all_goals
                go_meet
                exact ⟨rfl, rfl⟩
            · go_wp2_with fail
              all_goals
                go_meet
                exact ⟨rfl, rfl⟩
            · have f0 : ((r : Int) == 3) = false := by simp; omega
              have f1 : ((r : Int) == 4) = false := by simp; omega
              go_wp2_with fail
              all_goals
                go_meet
                exact ⟨by simp; omega, rfl⟩
          case rest =>
          obtain ⟨rfl, hwc⟩ := hcut
          subst hwc
          obtain ⟨w6, rfl⟩ : ∃ w6 : World, w6 = wc := ⟨_, rfl⟩
          trace "C119"
          by_cases hr4 : r ≤ 4
          · have e8 : decide (r ≤ 4) = true := by simpa using hr4
            rw [e8]
            go_upto_region 30 with fail
            trace "R30"
            have HMd := hide (HM.out.quiet ((Keeps.refl _ _).drew))
            have HYd := hide (HY.out.kept ((Keeps.refl (fun _ => False) w6).drew) (fun h => h))
            have HSg : Hid (∀ W : World, Blk W gh 40 (hiC y).toArray → (W.cell? ⟨gh, 0, none⟩ = some (.int .i64 y.1) ∧ W.cell? ⟨gh, 1, none⟩ = some (.int .i64 y.2.1) ∧ W.cell? ⟨gh, 2, none⟩ = some (.int .i64 y.2.2))) := hide (fun W h => (show Blk W gh 40 #[.int .i64 y.1, .int .i64 y.2.1, .int .i64 y.2.2] from h).three.1)
            clear HM HY
            refine wp_region_held_drew (S := fun W => W.cell? ⟨gh, 0, none⟩ = some (.int .i64 y.1) ∧ W.cell? ⟨gh, 1, none⟩ = some (.int .i64 y.2.1) ∧ W.cell? ⟨gh, 2, none⟩ = some (.int .i64 y.2.2)) (by kernel_rfl) (HSg.out _ HYd.out) (fun hHeld => ?_)
            refine wpAnyH_take (i := 0) (v := ?_) rfl (by kernel_rfl) (by kernel_rfl) (by kernel_rfl) (fun _ _ _ h => h) (Or.inl ⟨by first | kernel_rfl | rfl, ?_⟩) (by assumption) ?_; rotate_left; focus (intro w hSw; (try dsimp only at hSw); go_simp; try (with_reducible rfl)); (try simp only [Act.put, List.getElem_toArray, List.getElem_cons_succ, List.getElem_cons_zero, List.setIfInBounds_toArray, List.set_cons_zero, List.set_cons_succ])
            refine wpAnyH_take (i := 1) (v := ?_) rfl (by kernel_rfl) (by kernel_rfl) (by kernel_rfl) (fun _ _ _ h => h) (Or.inl ⟨by first | kernel_rfl | rfl, ?_⟩) (by assumption) ?_; rotate_left; focus (intro w hSw; (try dsimp only at hSw); go_simp; try (with_reducible rfl)); (try simp only [Act.put, List.getElem_toArray, List.getElem_cons_succ, List.getElem_cons_zero, List.setIfInBounds_toArray, List.set_cons_zero, List.set_cons_succ])
            refine wpAnyH_take (i := 3) (v := ?_) rfl (by kernel_rfl) (by kernel_rfl) (by kernel_rfl) (fun _ _ _ h => h) (Or.inl ⟨by first | kernel_rfl | rfl, ?_⟩) (by assumption) ?_; rotate_left; focus (intro w hSw; (try dsimp only at hSw); go_simp; try (with_reducible rfl)); (try simp only [Act.put, List.getElem_toArray, List.getElem_cons_succ, List.getElem_cons_zero, List.setIfInBounds_toArray, List.set_cons_zero, List.set_cons_succ])
            refine wpAnyH_take (i := 4) (v := ?_) rfl (by kernel_rfl) (by kernel_rfl) (by kernel_rfl) (fun _ _ _ h => h) (Or.inl ⟨by first | kernel_rfl | rfl, ?_⟩) (by assumption) ?_; rotate_left; focus (intro w hSw; (try dsimp only at hSw); go_simp; try (with_reducible rfl)); (try simp only [Act.put, List.getElem_toArray, List.getElem_cons_succ, List.getElem_cons_zero, List.setIfInBounds_toArray, List.set_cons_zero, List.set_cons_succ])
            refine wpAnyH_ready (rs := [2]) (by kernel_rfl) (by simp) ?_
            refine AllReadyH.cons rfl (fun K hK => ?_) AllReadyH.nil
            go_simp
            go_at_call 25
            refine (free_both HMd.out.2 ⟨by omega, by omega⟩ (by omega) (fun p hp => by have := HMd.out.1.lb; have := HMd.out.1.bx; omega) _ _ _).mono ?_
            rintro e wa ⟨er, rfl, ka, ha⟩
            have RA := hide (HMd.out.1.ar ka)
            have YA := hide (HYd.out.kept ka (ArS.hand HYd.out (.inl rfl)))
            have HA := hide ha
            clear ka ha HMd HYd
            (try go_wp2_with fail)
            refine hK.out _ _ (HSg.out _ YA.out) (fun _ => ?_)
            clear hK K
            (try simp only [Act.put, List.getElem_toArray, List.getElem_cons_succ, List.getElem_cons_zero, List.setIfInBounds_toArray, List.set_cons_zero, List.set_cons_succ])
            trace "FREE1"
            refine wpAnyH_ready (rs := [5]) (by kernel_rfl) (by simp) ?_
            refine AllReadyH.cons rfl (fun K hK => ?_) AllReadyH.nil
            go_simp
            go_at_call 30
            refine (HA.out wa (Keeps.refl _ _)).mono ?_
            rintro e wb ⟨rfl, bb, kb⟩
            have HMB : Hid (Mid w B0 a lo b g x ((i : Int) + 1) (i + 1) H D3 n3 m3 wb) := hide ⟨RA.out.rs kb, bb⟩
            have YB := hide (YA.out.kept kb (RS.hand YA.out (.inl rfl)))
            clear RA YA HA bb kb
            (try go_wp2_with fail)
            refine hK.out _ _ (HSg.out _ YB.out) (fun _ => ?_)
            clear hK K
            (try simp only [Act.put, List.getElem_toArray, List.getElem_cons_succ, List.getElem_cons_zero, List.setIfInBounds_toArray, List.set_cons_zero, List.set_cons_succ])
            trace "FREE2"
            refine wpAnyH_take (i := 6) (v := ?_) rfl (by kernel_rfl) (by kernel_rfl) (by kernel_rfl) (fun _ _ _ h => h) (Or.inl ⟨by first | kernel_rfl | rfl, ?_⟩) (by assumption) ?_; rotate_left; focus (intro w hSw; (try dsimp only at hSw); go_simp; try (with_reducible rfl)); (try simp only [Act.put, List.getElem_toArray, List.getElem_cons_succ, List.getElem_cons_zero, List.setIfInBounds_toArray, List.set_cons_zero, List.set_cons_succ])
            refine wpAnyH_done (by kernel_rfl) ?_ _
            (try simp only [Act.put, List.getElem_toArray, List.getElem_cons_succ, List.getElem_cons_zero, List.setIfInBounds_toArray, List.set_cons_zero, List.set_cons_succ])
            clear hHeld HSg
            go_wp2_with fail
            trace "FREE"
            all_goals
              go_meet
              exact ⟨H, D3, n3, m3, rfl, by omega, by rw [hi1]; exact HMB.out⟩
          · have e8 : decide (r ≤ 4) = false := by simpa using hr4
            rw [e8]
            by_cases hr5 : r = 5
            · subst hr5
              obtain ⟨nn, hnn, hn64⟩ : ∃ nn : Nat, v / 256 % 64 = (nn : Int) ∧ nn < 64 := ⟨(v / 256 % 64).toNat, by omega, by omega⟩
              obtain ⟨gc, hgc⟩ : ∃ gc, gc = w6.heap.size := ⟨_, rfl⟩
              obtain ⟨w7, hw7⟩ : ∃ w7, w7 = w6.alloc (.cells (Array.replicate nn (.int .u8 0)) 5) := ⟨_, rfl⟩
              have K7 : Hid (Keeps (fun _ => False) w6 w7) := hide (by rw [hw7]; exact (Keeps.refl _ _).alloc _)
              have O7 : Hid (Own w7 gc 5 1 (some ⟨gc, 0, none⟩) nn nn ((List.replicate nn (0 : UInt8)).map by8)) := hide (by
                have h1 := Own.new_at w6 gc 5 (Array.replicate nn (Value.int .u8 0)) nn 1 gc hgc (Nat.le_refl _) (by simp only [maxLen]; omega) (by simp)
                rw [hw7, List.map_replicate, show by8 0 = Value.int .u8 0 from rfl]
                simpa using h1)
              have HGC := hide hgc
              have HW7 := hide hw7
              have hmk := fun w => run_make8 nn (by omega) w
              have h63 := i64_and63
              clear hgc hw7
              go_upto_region 34 with fail
              rw [← HW7.out, ← HGC.out]
              clear HW7 hmk h63 hnn
              trace "R34"
              go_upto_region 35 with fail
              trace "R35"
              go_loopw [21, 137] (fun _ iv wr => ∃ (k : Nat) (bs : List UInt8), k ≤ nn ∧ iv = .int .i64 (k : Int) ∧ Hid (Own wr gc 5 1 (some ⟨gc, 0, none⟩) nn nn (bs.map by8)) ∧ Hid (Keeps (fun _ => False) w6 wr)) (fun _ iv _ => nn - (intOf iv).toNat)
              case atStart => exact ⟨0, _, by omega, rfl, O7, K7⟩
              case round =>
                obtain ⟨k, bs, hk, rfl, OI, KI⟩ := hrel
                clear O7 K7
                obtain ⟨w8, rfl⟩ : ∃ w8 : World, w8 = wr := ⟨_, rfl⟩
                by_cases hkn : k < nn
                · have ek : decide ((k : Int) < (nn : Int)) = true := by simpa using hkn
                  have hkI : (k : Int) < (nn : Int) := by omega
                  have hk0 : (0 : Int) ≤ (k : Int) := by omega
                  obtain ⟨u, hu⟩ : ∃ u, w8.cell? ⟨gc, k, none⟩ = some u := by
                    have h1 := OI.out.cell k (by omega)
                    have h2 := OI.out.len
                    rw [h1]
                    exact ⟨_, List.getElem?_eq_getElem (by omega)⟩
                  have fu := OI.out.frozen k
                  have gcl : gc < w8.heap.size := (OI.out.inB ⟨_, rfl, rfl⟩).2
                  have KS := fun u => hide (KI.out.step (keepsOne w8 gc k u) (fun p hp e => by have := HGC.out; omega))
                  go_wp2_with fail
                  trace "SET"
                  go_roundw
                  case rel => exact ⟨k + 1, _, by omega, by go_num, hide (own_setB OI.out k _), KS _⟩
                  case measure => simp [intOf]; omega
                · obtain rfl : k = nn := by omega
                  have HMd := hide (HM.out.quiet KI.out)
                  have HYd := hide (HY.out.kept KI.out (fun h => h))
                  clear HM HY KI
                  go_upto_region 39 with fail
                  trace "R39"
                  have HMe := hide (HMd.out.quiet ((Keeps.refl _ _).drew))
                  have HYe := hide (HYd.out.kept ((Keeps.refl (fun _ => False) w8).drew) (fun h => h))
                  have OE := hide (OI.out.kept ((Keeps.refl (fun _ => False) w8).drew) (fun _ _ h => h))
                  have HSg : Hid (∀ W : World, Blk W gh 40 (hiC y).toArray → (W.cell? ⟨gh, 0, none⟩ = some (.int .i64 y.1) ∧ W.cell? ⟨gh, 1, none⟩ = some (.int .i64 y.2.1) ∧ W.cell? ⟨gh, 2, none⟩ = some (.int .i64 y.2.2))) := hide (fun W h => (show Blk W gh 40 #[.int .i64 y.1, .int .i64 y.2.1, .int .i64 y.2.2] from h).three.1)
                  clear HMd HYd OI
                  refine wp_region_held_drew (S := fun W => W.cell? ⟨gh, 0, none⟩ = some (.int .i64 y.1) ∧ W.cell? ⟨gh, 1, none⟩ = some (.int .i64 y.2.1) ∧ W.cell? ⟨gh, 2, none⟩ = some (.int .i64 y.2.2)) (by kernel_rfl) (HSg.out _ HYe.out) (fun hHeld => ?_)
                  refine wpAnyH_take (i := 0) (v := ?_) rfl (by kernel_rfl) (by kernel_rfl) (by kernel_rfl) (fun _ _ _ h => h) (Or.inl ⟨by first | kernel_rfl | rfl, ?_⟩) (by assumption) ?_; rotate_left; focus (intro w hSw; (try dsimp only at hSw); go_simp; try (with_reducible rfl)); (try simp only [Act.put, List.getElem_toArray, List.getElem_cons_succ, List.getElem_cons_zero, List.setIfInBounds_toArray, List.set_cons_zero, List.set_cons_succ])
                  refine wpAnyH_take (i := 1) (v := ?_) rfl (by kernel_rfl) (by kernel_rfl) (by kernel_rfl) (fun _ _ _ h => h) (Or.inl ⟨by first | kernel_rfl | rfl, ?_⟩) (by assumption) ?_; rotate_left; focus (intro w hSw; (try dsimp only at hSw); go_simp; try (with_reducible rfl)); (try simp only [Act.put, List.getElem_toArray, List.getElem_cons_succ, List.getElem_cons_zero, List.setIfInBounds_toArray, List.set_cons_zero, List.set_cons_succ])
                  refine wpAnyH_take (i := 2) (v := ?_) rfl (by kernel_rfl) (by kernel_rfl) (by kernel_rfl) (fun _ _ _ h => h) (Or.inl ⟨by first | kernel_rfl | rfl, ?_⟩) (by assumption) ?_; rotate_left; focus (intro w hSw; (try dsimp only at hSw); go_simp; try (with_reducible rfl)); (try simp only [Act.put, List.getElem_toArray, List.getElem_cons_succ, List.getElem_cons_zero, List.setIfInBounds_toArray, List.set_cons_zero, List.set_cons_succ])
                  refine wpAnyH_take (i := 4) (v := ?_) rfl (by kernel_rfl) (by kernel_rfl) (by kernel_rfl) (fun _ _ _ h => h) (Or.inl ⟨by first | kernel_rfl | rfl, ?_⟩) (by assumption) ?_; rotate_left; focus (intro w hSw; (try dsimp only at hSw); go_simp; try (with_reducible rfl)); (try simp only [Act.put, List.getElem_toArray, List.getElem_cons_succ, List.getElem_cons_zero, List.setIfInBounds_toArray, List.set_cons_zero, List.set_cons_succ])
                  refine wpAnyH_take (i := 5) (v := ?_) rfl (by kernel_rfl) (by kernel_rfl) (by kernel_rfl) (fun _ _ _ h => h) (Or.inl ⟨by first | kernel_rfl | rfl, ?_⟩) (by assumption) ?_; rotate_left; focus (intro w hSw; (try dsimp only at hSw); go_simp; try (with_reducible rfl)); (try simp only [Act.put, List.getElem_toArray, List.getElem_cons_succ, List.getElem_cons_zero, List.setIfInBounds_toArray, List.set_cons_zero, List.set_cons_succ])
                  refine wpAnyH_take (i := 6) (v := ?_) rfl (by kernel_rfl) (by kernel_rfl) (by kernel_rfl) (fun _ _ _ h => h) (Or.inl ⟨by first | kernel_rfl | rfl, ?_⟩) (by assumption) ?_; rotate_left; focus (intro w hSw; (try dsimp only at hSw); go_simp; try (with_reducible rfl)); (try simp only [Act.put, List.getElem_toArray, List.getElem_cons_succ, List.getElem_cons_zero, List.setIfInBounds_toArray, List.set_cons_zero, List.set_cons_succ])
                  refine wpAnyH_ready (rs := [3]) (by kernel_rfl) (by simp) ?_
                  refine AllReadyH.cons rfl (fun K hK => ?_) AllReadyH.nil
                  go_simp
                  go_at_call 31
                  refine (write_both HMe.out.2 ⟨by omega, by omega⟩ (by omega) HMe.out.1.bx (fun p hp => by have := HMe.out.1.lb; have := HMe.out.1.bx; omega) _ _ _ _ _ _ _ bs OE.out (by omega)).mono ?_
                  rintro e wa ⟨er, rfl, ka, ha⟩
                  have RA := hide (HMe.out.1.ar ka)
                  have YA := hide (HYe.out.kept ka (ArS.hand HYe.out (.inl rfl)))
                  have HA := hide ha
                  clear ka ha HMe HYe OE
                  (try go_wp2_with fail)
                  refine hK.out _ _ (HSg.out _ YA.out) (fun _ => ?_)
                  clear hK K
                  (try simp only [Act.put, List.getElem_toArray, List.getElem_cons_succ, List.getElem_cons_zero, List.setIfInBounds_toArray, List.set_cons_zero, List.set_cons_succ])
                  trace "WRITE1"
                  refine wpAnyH_ready (rs := [7]) (by kernel_rfl) (by simp) ?_
                  refine AllReadyH.cons rfl (fun K hK => ?_) AllReadyH.nil
                  go_simp
                  go_at_call 32
                  refine (HA.out wa (Keeps.refl _ _)).mono ?_
                  rintro e wb ⟨rfl, bb, kb⟩
                  have HMB : Hid (Mid w B0 a lo b g x ((i : Int) + 1) (i + 1) H D3 n3 m3 wb) := hide ⟨RA.out.rs kb, bb⟩
                  have YB := hide (YA.out.kept kb (RS.hand YA.out (.inl rfl)))
                  clear RA YA HA bb kb
                  (try go_wp2_with fail)
                  refine hK.out _ _ (HSg.out _ YB.out) (fun _ => ?_)
                  clear hK K
                  (try simp only [Act.put, List.getElem_toArray, List.getElem_cons_succ, List.getElem_cons_zero, List.setIfInBounds_toArray, List.set_cons_zero, List.set_cons_succ])
                  refine wpAnyH_take (i := 8) (v := ?_) rfl (by kernel_rfl) (by kernel_rfl) (by kernel_rfl) (fun _ _ _ h => h) (Or.inl ⟨by first | kernel_rfl | rfl, ?_⟩) (by assumption) ?_; rotate_left; focus (intro w hSw; (try dsimp only at hSw); go_simp; try (with_reducible rfl)); (try simp only [Act.put, List.getElem_toArray, List.getElem_cons_succ, List.getElem_cons_zero, List.setIfInBounds_toArray, List.set_cons_zero, List.set_cons_succ])
                  refine wpAnyH_done (by kernel_rfl) ?_ _
                  (try simp only [Act.put, List.getElem_toArray, List.getElem_cons_succ, List.getElem_cons_zero, List.setIfInBounds_toArray, List.set_cons_zero, List.set_cons_succ])
                  clear hHeld HSg
                  go_wp2_with fail
                  trace "WRITE"
                  all_goals
                    go_meet
                    exact ⟨H, D3, n3, m3, rfl, by omega, by rw [hi1]; exact HMB.out⟩
            · have f5 : ((r : Int) == 5) = false := by simp; omega
              obtain ⟨⟨r0, r1, r2⟩, _, rl⟩ := (show Blk _ gh 40 #[.int .i64 y.1, .int .i64 y.2.1, .int .i64 y.2.2] from HY.out).three
              go_upto_region 15 with fail
              go_wp2_with fail
              refine (read_both HM.out.2 ⟨by omega, by omega⟩ (by omega) HM.out.1.bx _ _ _).mono ?_
              rintro e wa ⟨er, DU, nu, mu, bs, rfl, oa, hnu, ka, ha⟩
              have RA := hide (HM.out.1.ar ka)
              have YA := hide (HY.out.kept ka (ArS.hand HY.out (.inl rfl)))
              have HA := hide ha
              clear oa ka ha r0 r1 r2 rl HM HY
              obtain ⟨⟨r0, r1, r2⟩, _, rl⟩ := (show Blk wa gh 40 #[.int .i64 y.1, .int .i64 y.2.1, .int .i64 y.2.2] from YA.out).three
              go_wp2_with fail
              refine (HA.out wa (Keeps.refl _ _)).mono ?_
              rintro e wb ⟨DV, mv, rfl, o2, o1, bb, kb⟩
              have RB := hide (RA.out.rs kb)
              have O1 := hide o1
              have O2 := hide o2
              have BB := hide bb
              clear o1 o2 bb kb HA RA YA r0 r1 r2 rl
              go_wp2_with fail
              refine (same_any bs bs DU DV nu nu mu mv _ _ wb (O1.out.rd (by omega)) (O2.out.rd (by omega)) (by omega) (by omega)).mono ?_
              rintro e wd ⟨rfl, nq, rfl⟩
              rw [decide_eq_true (rfl : bs = bs)]
              have HMD : Hid (Mid w B0 a lo b g x ((i : Int) + 1) (i + 1) H D3 n3 m3 (wb.drewN nq)) := hide ⟨RB.out.quiet ((Keeps.refl _ _).drewN nq), Both.quiet BB.out ((Keeps.refl _ _).drewN nq)⟩
              clear RB BB O1 O2
              go_wp2_with fail
              trace "READ"
              all_goals
                go_meet
                exact ⟨H, D3, n3, m3, rfl, by omega, by rw [hi1]; exact HMD.out⟩
      case rest =>
      obtain ⟨H4, D4, n4, m4, rfl, hn4', hm⟩ := hcut
      have HM4 := hide hm
      clear hm HM HY HGL HDN
      obtain ⟨w7, rfl⟩ : ∃ w7 : World, w7 = wc := ⟨_, rfl⟩
      go_upto_region 41 with fail
      trace "R41"
      go_wp2_with fail
      refine (usage_both HM4.out.2 (by omega)).mono ?_
      rintro e w8 ⟨DU, nu, mu, bt, f, lv, rfl, o8, hnu, k8, h8⟩
      have O8 := hide o8
      have K8 := hide k8
      have H8 := hide h8
      clear o8 k8 h8
      go_wp2_with fail
      refine (H8.out w8 (Keeps.refl _ _)).mono ?_
      rintro e w9 ⟨DV, mv, rfl, o9, b9, k9⟩
      have O9 := hide o9
      have K9 := hide k9
      have B9 := hide b9
      have R9 := hide ((HM4.out.1.quiet K8.out).quiet K9.out)
      have O89 := hide (O8.out.kept K9.out (fun _ _ h => h))
      clear o9 k9 b9 H8 O8 K8 K9 HM4
      go_wp2_with fail
      refine (sameUsage_any lv DU DV nu mu mv _ _ bt f w9 (O89.out.rd (by omega)) (O9.out.rd (by omega)) (by omega)).mono ?_
      rintro e w10 ⟨rfl, k10⟩
      have HM10 : Hid (Mid w B0 a lo b g x ((i + 1 : Nat) : Int) (i + 1) H4 D4 n4 m4 w10) := hide ⟨R9.out.quiet k10, Both.quiet B9.out k10⟩
      clear k10 O9 O89 B9 R9
      go_wp2_with fail
      go_roundw
      case rel => exact ⟨i + 1, H4, D4, n4, m4, by omega, hn4', rfl, by go_num, HM10⟩
      case measure => simp [intOf]; omega
    · have hend : (decide ((i : Int) < (n2 : Int)) && decide ((i : Int) < 60)) = false := by simp; omega
      by_cases hlt1 : (i : Int) < (n2 : Int)
      · have e1 : decide ((i : Int) < (n2 : Int)) = true := by simpa using hlt1
        have e2 : decide ((i : Int) < 60) = false := by simp; omega
        go_wp2_with fail
        refine (awake08 _).mono ?_
        rintro e w18 ⟨rfl, k18⟩
        have K18 := hide (HR.out.1.k.trans k18)
        clear k18
        go_wp2_with fail
        go_ret
        exact ⟨rfl, K18.out⟩
      · have e1 : decide ((i : Int) < (n2 : Int)) = false := by simpa using hlt1
        go_wp2_with fail
        refine (awake08 _).mono ?_
        rintro e w18 ⟨rfl, k18⟩
        have K18 := hide (HR.out.1.k.trans k18)
        clear k18
        go_wp2_with fail
        go_ret
        exact ⟨rfl, K18.out⟩
end arenaSteps
end Go.Proofs.Ytidobhflijdccaa
