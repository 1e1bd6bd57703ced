/-
  CountminBounds: the estimate of a key is never less than its weight, and never greater than the whole weight; the walk. No conditions beyond those of the statement.
-/
import Derived.Test.YtaiopdipldaimaaLaw16
import Derived.Test.YtaiopdipldaimaaShort
import Derived.Test.YtaiopdipldaimaaMem4
import Derived.Deep.RegionHeld3
set_option linter.unusedVariables false
set_option linter.unusedSimpArgs false
namespace Go.Proofs.Ytaiopdipldaimaa
open Go.RowKit

theorem elemStr : ElemOf Try.prog 33 9 1 16 := ElemOf.mk' (z := .string ByteArray.empty) Try.underlying33 (by kernel_rfl) rfl (by omega)
/-- the weight of a key -/
def wts : List (ByteArray × Int) → List UInt8 → Int
  | [], _ => 0
  | p :: l, key => (if key = p.1.data.toList then 1 + p.2 else 0) + wts l key
theorem wts_snoc (l : List (ByteArray × Int)) (p : ByteArray × Int) (key : List UInt8) : wts (l ++ [p]) key = if key = p.1.data.toList then wts l key + (1 + p.2) else wts l key := by
  induction l with
  | nil => simp only [List.nil_append, wts]; split <;> omega
  | cons q l ih => simp only [List.cons_append, wts, ih]; split <;> split <;> omega
theorem wts_bd (l : List (ByteArray × Int)) (key : List UInt8) (h : ∀ p ∈ l, 0 ≤ p.2 ∧ p.2 < 65536) : 0 ≤ wts l key ∧ wts l key ≤ l.length * 65536 := by
  induction l with
  | nil => simp [wts]
  | cons q l ih =>
    have h1 := ih (fun p hp => h p (by simp [hp]))
    have h2 := h q (by simp)
    simp only [wts, List.length_cons]
    split <;> omega
theorem bytes_ext {a b : ByteArray} (h : a.data.toList = b.data.toList) : a = b := by
  obtain ⟨⟨x⟩⟩ := a
  obtain ⟨⟨y⟩⟩ := b
  simp at h
  rw [h]

namespace countminBounds
/-- between two additions -/
def Rel (w : World) (lo hi gd g d n : Nat) (zs : List Int) (seed : Int) (bs : Nat → Nat) (bt ct : Nat) (ws : List Int) (k : Nat) (keys : Value) (wr : World) : Prop :=
  ∃ (R : Cmp.Rows) (T : Int) (P : List (ByteArray × Int)) (A : Option Addr) (c : Nat), keys = .slice A k c ∧ Sk wr lo hi g d n R zs seed T bs bt ct ∧ T ≤ k * 65536 ∧ P.length = k ∧ (∀ i p, P[i]? = some p → p.2 = ws.getD i 0) ∧ (∀ p ∈ P, 0 ≤ p.2 ∧ p.2 < 65536 ∧ p.1.size ≤ 3) ∧
    Own wr hi 9 1 A k c (P.map fun p => .string p.1) ∧ Cmp.Over R zs seed d n (wts P) ∧ IsDeck wr w.heap.size gd ∧ Keeps (fun _ => False) w wr
set_option maxRecDepth 100000 in
set_option maxHeartbeats 2000000 in
theorem walk (w : World) (dep : Int) (p0 : 0 ≤ dep) (p1 : dep < 256) (wid : Int) (q0 : 0 ≤ wid) (q1 : wid < 256)
    (A0 : Option Addr) (n0 c0 : Nat) (dz : List Int) (hr0 : Rd w w.heap.size A0 1 n0 (dz.map (.int .i64))) (hz : ∀ z ∈ dz, -9223372036854775808 ≤ z ∧ z < 9223372036854775808) (hn0 : n0 * 8 ≤ 140737488351232) (hc0 : n0 ≤ c0)
    (A1 : Option Addr) (n1 c1 : Nat) (ws : List Int) (hr1 : Rd w w.heap.size A1 1 n1 (ws.map (.int .u16))) (hw : ∀ z ∈ ws, 0 ≤ z ∧ z < 65536) (hn1 : n1 * 2 ≤ 140737488351232) (hc1 : n1 ≤ c1)
    (seed : Int) (s0 : 0 ≤ seed) (s1 : seed < 18446744073709551616) :
    Calls Try.prog 3 #[.int .u8 dep, .int .u8 wid, .slice A0 n0 c0, .slice A1 n1 c1, .int .u64 seed] w fun e w' => e = .returned (.bool true) ∧ Below w.heap.size w w' := by
  have HD := hide (new_deck A0 n0 c0 dz w.heap.size w (Nat.le_refl _) hr0 hz (by omega))
  have HR1 := hide hr1
  have HW := hide hw
  have hwl : ws.length = n1 := by simpa using hr1.1
  have HWL := hide hwl
  clear hr0 hr1 hw hz hwl
  go_enter Try.func3, Try.ntmps3
  go_wp2_with fail
  refine HD.out.mono ?_
  rintro e w1 ⟨rfl, hd1, k1⟩
  have K1 := hide k1
  clear k1 HD
  go_wp2_with fail
  refine (table_any w.heap.size _ _ hd1).mono ?_
  rintro e w2 ⟨b, zs, rfl, hzl, hzb, hb, hbs, hd2, k2⟩
  have K2 := hide (K1.out.step k2 (fun j hj h => by omega))
  have HZL := hide hzl
  have HB := hide hb
  have HZB := hide hzb
  have hgd := hd2.lt
  clear hzl hzb hb k2 hd1
  obtain ⟨d, hd⟩ : ∃ d : Nat, 1 + dep % 4 = (d : Int) := ⟨(1 + dep % 4).toNat, by omega⟩
  obtain ⟨n, hn⟩ : ∃ n : Nat, 1 + wid % 20 = (n : Int) := ⟨(1 + wid % 20).toNat, by omega⟩
  have hdb : 1 ≤ d ∧ d ≤ 4 := by omega
  have hnb : 1 ≤ n ∧ n ≤ 256 := by omega
  have HDD := hide hd
  have HNN := hide hn
  clear hd hn
  go_wp2_with fail
  rw [HDD.out, HNN.out]
  refine (new_ok (c := 16) d n hdb hnb seed s0 s1 zs HZB.out (Blk.rd HB.out (by simp [HZL.out]))).mono ?_
  rintro e w3 ⟨g, bs, bt, ct, rfl, sk, hgt, k3⟩
  have HGT := hide hgt
  have hbase : w.heap.size ≤ w2.heap.size := K2.out.size
  have hhi : w2.heap.size ≤ w3.heap.size := by have := sk.lo_g; omega
  have hrel0 : Rel w w2.heap.size w3.heap.size w.heap.size g d n zs seed bs bt ct ws 0 (.slice none 0 0) w3 ∧ w3.heap.size ≤ w3.heap.size :=
    ⟨⟨_, 0, [], none, 0, rfl, sk, by omega, rfl, fun i p h => by simp at h, fun p h => by simp at h, Own.nil _ _ _ _, fun key i hi => by simpa [wts] using (sk.fine.2.2 i _).1, hd2.kept k3 (fun h => h) (fun _ _ h => h), K2.out.trans k3⟩, Nat.le_refl _⟩
  have HREL := hide hrel0
  clear sk k3 hrel0 K1 K2 HB hgt hd2
  go_wp2_with fail
  go_loopw [14, 15] (fun keys i wr => ∃ k : Nat, k ≤ n1 ∧ k ≤ 50 ∧ i = .int .i64 k ∧ Rel w w2.heap.size w3.heap.size w.heap.size g d n zs seed bs bt ct ws k keys wr ∧ w3.heap.size ≤ wr.heap.size) (fun _ i _ => n1 - (intOf i).toNat)
  case atStart => exact ⟨0, by omega, by omega, rfl, HREL.out⟩
  case round =>
    obtain ⟨k, hk, hk5, rfl, hrel, hws3⟩ := hrel
    clear HREL
    by_cases hlt : k < n1
    · by_cases hlt2 : k < 50
      · obtain ⟨R, T, P, A, c, rfl, sk, hT, hPl, hPw, hPb, ok, hov, dk, kp⟩ := hrel
        obtain ⟨b1, off1, rfl, hb1, hcc⟩ := (HR1.out.kept kp (fun _ _ h => h)).2 (by omega)
        have hgx : ws.getD k 0 ∈ ws := by have h1 := HWL.out; rw [List.getD, List.getElem?_eq_getElem (by omega)]; simp
        have hx := hcc k (.int .u16 (ws.getD k 0)) (by have h1 := HWL.out; simp [List.getD, show k < ws.length by omega])
        have hxb := HW.out _ hgx
        obtain ⟨x, hxx⟩ : ∃ x, x = ws.getD k 0 := ⟨_, rfl⟩
        rw [← hxx] at hx hxb
        have HXX := hide hxx
        have x0 := hxb.1
        have x1 := hxb.2
        have hkI : (k : Int) < (n1 : Int) := by omega
        have tt := sk.tt
        have SK := hide sk
        have KP := hide kp
        have OK := hide ok
        have HPL := hide hPl
        have HPW := hide hPw
        have HPB := hide hPb
        have HOV := hide hov
        have ew0 : IntKind.u64.wrap x = x := by rw [IntKind.wrap_u64]; omega
        have ew : IntKind.u64.wrap (1 + x) = 1 + x := by rw [IntKind.wrap_u64]; omega
        clear sk kp hcc hgx hxx hxb ok hPl hPw hPb hov
        go_wp2_with fail
        refine (short_any _ _ _ dk).mono ?_
        rintro e w5 ⟨s, rfl, s2, s3, hd5, k5⟩
        have hAlo : ∀ j, inB A j → w3.heap.size ≤ j ∧ j < wr.heap.size := fun j h => OK.out.inB h
        have HALO := hide hAlo
        have OK5 := hide (OK.out.kept k5 (fun j h e => by have := HALO.out j h; omega))
        have SK5 := hide (SK.out.kept k5 (fun j h1 h2 e => by have h3 : j = w.heap.size := e; omega))
        have KP5 := hide (KP.out.step k5 (fun j h1 e => by omega))
        have hx5 := k5.cell_some hx (fun h => by have : b1 = w.heap.size := h; omega)
        have hw5 := k5.size
        clear hAlo k5 hx dk KP SK OK
        go_wp2_with (at_builtin; refine wpList_app1 _ elemStr (by omega) rfl (.tmp 55) (.tmp 58) rfl w3.heap.size _ rfl (OK5.out.kept ((Keeps.refl (fun _ => False) w5).alloc _) (fun _ _ h => h)) _ (m := 1) [.string s] rfl (by omega) (by exact Blk.rd (xs := [.string s]) (Blk.new_at _ _ _ _ (by simp)) rfl) (by simp [Value.oneCell']) (by simp only [maxLen]; omega) (by omega) (by simp; omega) ?_; intro A6 c6 w6 o6 k6 hA6 _; have O6 := hide o6; have K6 := hide k6; clear o6 k6 hA6)
        have KA := (Keeps.refl (fun _ => False) w5).alloc (.cells #[.string s] 9)
        have hAlo := HALO.out
        have hx6 := K6.out.cell_some (KA.cell_some hx5 (fun h => h)) (fun h => by have h2 : w3.heap.size ≤ b1 := (hAlo b1 h).1; omega)
        obtain ⟨g6, rfl, hg6, hg6'⟩ := O6.out.some_ (by omega)
        have hs6 := O6.out.cell k (by omega)
        rw [show (P.map (fun p => Value.string p.1) ++ [Value.string s])[k]? = some (.string s) from by have := HPL.out; rw [List.getElem?_append_right (by simp; omega)]; simp [this]] at hs6
        have SK6 := hide ((SK5.out.kept KA (fun _ _ _ h => h)).kept K6.out (fun j h1 h2 h => by have := hAlo j h; omega))
        have dk6 := (hd5.kept KA (fun h => h) (fun _ _ h => h)).kept K6.out (fun h => by have := hAlo _ h; omega) (fun j hj h => by have := hAlo j h; omega)
        have KP6 := hide ((KP5.out.trans KA).step K6.out (fun j hj h => by have := hAlo j h; omega))
        have hne : s.data.toList ≠ [] := fun h => by have h3 := congrArg List.length h; have h4 : s.size = 0 := by simpa using h3
                                                     omega
        have hE : Cmp.addE s.data.toList (1 + x) T = 0 := by unfold Cmp.addE; rw [if_neg hne, if_neg (by omega), if_pos (by omega)]
        have hadd := fun q => add_any (SK6.out.drewN q) HGT.out s (by omega) (1 + x) (by omega) (by omega)
        unfold Added at hadd
        rw [hE] at hadd
        simp only [if_true] at hadd
        have HADD := hide hadd
        have hover := Cmp.over_raise (k := s.data.toList) (w := 1 + x) SK6.out.fine (by have := SK6.out.nn; omega) (by have := SK6.out.dd; omega) (by omega) (by unfold Cmp.big; omega) HOV.out
        have HOVER := hide hover
        have hsz6 : wr.heap.size ≤ w6.heap.size := by have h1 := K6.out.size; have h2 := KA.size; omega
        have hb0 : (0 : Int) ≤ (k : Int) := by omega
        have hb1' : (k : Int) < (k : Int) + 1 := by omega
        have hb2' : (k : Int) < ((k + 1 : Nat) : Int) := by omega
        clear hx5 hd5 hne hE hadd hover KA hAlo SK5 KP5 OK5 K6 SK6
        go_wp2_with fail
        go_region_held3 (fun w' => w'.cell? ⟨g6, k, none⟩ = some (.string s) ∧ w'.cell? ⟨b1, off1 + k, none⟩ = some (.int .u16 x)) (first | go_keep | (exact ⟨by assumption, by assumption⟩)) ((go_at_call 18; refine (HADD.out 1).mono ?_; rintro e w7 ⟨rfl, k7, sk7⟩; have hs7 := k7.cell_some (p := ⟨g6, k, none⟩) (v := .string s) (by exact hs6) (fun h => by have h2 : g6 < w3.heap.size := h.2; omega); have hx7 := k7.cell_some (p := ⟨b1, off1 + k, none⟩) (v := .int .u16 x) (by exact hx6) (fun h => by have h2 : w2.heap.size ≤ b1 := h.1; omega); have SK7 := hide sk7; have K7 := hide k7; clear sk7 k7))
        have O7 := hide ((O6.out.drewN 1).kept K7.out (fun j h1 h => by have := O6.out.inB h1; omega))
        have dk7 := (dk6.kept (S := fun _ => False) ((Keeps.refl _ _).drewN 1) (fun h => h) (fun _ _ h => h)).kept K7.out (fun h => by omega) (fun j hj h => by omega)
        have KP7 := hide ((KP6.out.drewN 1).step K7.out (fun j h1 h => by omega))
        have hsz7 := K7.out.size
        simp only [World.heap_drewN] at hsz7
        go_wp2_with fail
        go_roundw
        case rel =>
          refine ⟨k + 1, by omega, by omega, by go_num, ⟨_, _, P ++ [(s, x)], _, c6, rfl, SK7.out, by omega, by simp [HPL.out], fun i p hp => ?_, fun p hp => ?_, by simpa using O7.out, fun key i hi => ?_, dk7, KP7.out⟩, by omega⟩
          · have hl := HPL.out
            by_cases hik : i < k
            · rw [List.getElem?_append_left (by omega)] at hp
              exact HPW.out i p hp
            · have hik2 : i = k := by have := (List.getElem?_eq_some_iff.1 hp).1; simp at this; omega
              rw [hik2, List.getElem?_append_right (by omega), hl] at hp
              simp at hp
              rw [← hp, hik2]
              exact HXX.out
          · rcases List.mem_append.1 hp with h | h
            · exact HPB.out p h
            · simp at h; subst h; exact ⟨x0, x1, s3⟩
          · have h1 := HOVER.out key i hi
            show wts (P ++ [(s, x)]) key ≤ _
            rw [wts_snoc]
            exact h1
        case measure => simp [intOf]; omega
      ·
        obtain ⟨R, T, P, A, c, rfl, sk, hT, hPl, hPw, hPb, ok, hov, dk, kp⟩ := hrel
        have hdd := sk.dd
        have hnn := sk.nn
        have htt := sk.tt
        have OK := hide ok
        have SK := hide sk
        have KP := hide kp
        have HPL := hide hPl
        have HPW := hide hPw
        have HPB := hide hPb
        have HOV := hide hov
        clear ok sk kp hPl hPw hPb hov dk
        go_wp2_with (at_builtin; refine wpList_app1 _ elemStr (by omega) rfl (.tmp 73) (.tmp 74) rfl w3.heap.size _ rfl (OK.out.kept ((Keeps.refl (fun _ => False) wr).alloc _) (fun _ _ h => h)) _ (m := 1) [.string ⟨#[110, 111, 110, 101]⟩] rfl (by omega) (by exact Blk.rd (xs := [.string ⟨#[110, 111, 110, 101]⟩]) (Blk.new_at _ _ _ _ (by simp)) rfl) (by simp [Value.oneCell']) (by simp only [maxLen]; omega) (by omega) (by simp; omega) ?_; intro A6 c6 w6 o6 k6 hA6 rd6; have O6 := hide o6; have K6 := hide k6; have RD6 := hide rd6; clear o6 k6 hA6 rd6)
        have KA := (Keeps.refl (fun _ => False) wr).alloc (.cells #[.string ⟨#[110, 111, 110, 101]⟩] 9)
        have hAlo : ∀ j, inB A j → w3.heap.size ≤ j := fun j h => (OK.out.inB h).1
        have SK6 := hide ((SK.out.kept KA (fun _ _ _ h => h)).kept K6.out (fun j h1 h2 h => by have := hAlo j h; omega))
        have KP6 := hide ((KP.out.trans KA).step K6.out (fun j hj h => by have := hAlo j h; omega))
        obtain ⟨g6, rfl, hg6, hg6'⟩ := O6.out.some_ (by omega)
        have RW6 := hide (HR1.out.kept KP6.out (fun _ _ h => h))
        have HEST := hide (fun q key (hk : ByteArray.size key ≤ 140737488351232) => estimate_any (SK6.out.drewN q) key hk)
        have HTOT := hide (fun q => total_any (SK6.out.drewN q))
        have HLO := hide (fun key => Cmp.over_least (t := zs) (seed := seed) SK.out.fine (by omega) (by omega) (by unfold Cmp.big; omega) HOV.out key)
        have HLB := hide (fun key => Cmp.least_bd (t := zs) (seed := seed) (k := key) SK.out.fine (by omega) (by omega))
        clear KA hAlo
        go_loopw [77] (fun i wr => ∃ j : Nat, j ≤ k + 1 ∧ i = .int .i64 j ∧ ∃ nq, wr = w6.drewN nq) (fun i _ => k + 1 - (intOf i).toNat)
        case atStart => exact ⟨0, by omega, rfl, 0, rfl⟩
        case round =>
          obtain ⟨j, hj, rfl, nq0, rfl⟩ := hrel
          by_cases hjk : j < k + 1
          · have hc6 := O6.out.cell j (by omega)
            obtain ⟨key, hkey, hks⟩ : ∃ key : ByteArray, (P.map (fun p => Value.string p.1) ++ [Value.string ⟨#[110, 111, 110, 101]⟩])[j]? = some (.string key) ∧ key.size ≤ 4 := by
              have hl := HPL.out
              by_cases hjl : j < k
              · rw [List.getElem?_append_left (by simp; omega)]
                refine ⟨(P[j]'(by omega)).1, by simp [show j < P.length by omega], ?_⟩
                have := (HPB.out (P[j]'(by omega)) (List.getElem_mem _)).2.2
                omega
              · obtain rfl : j = k := by omega
                rw [List.getElem?_append_right (by simp; omega)]
                exact ⟨⟨#[110, 111, 110, 101]⟩, by simp [hl], by decide⟩
            rw [hkey] at hc6
            have hjI : (j : Int) < (k : Int) + 1 := by omega
            have hlo := HLO.out key.data.toList
            have hlb := HLB.out key.data.toList
            have hest := fun q => HEST.out q key (by omega)
            obtain ⟨est, he⟩ : ∃ est, est = Cmp.least R zs seed key.data.toList d := ⟨_, rfl⟩
            rw [← he] at hlo hlb hest
            have HES := hide hest
            have hlo' := hlo
            clear hkey he hest hlo
            go_wp2_with fail
            go_loopw [18, 83] (fun f i wr => ∃ m : Nat, m ≤ k ∧ i = .int .i64 m ∧ f = .int .u64 (wts (P.take m) key.data.toList) ∧ ∃ nq, wr = w6.drewN nq) (fun _ i _ => k - (intOf i).toNat)
            case atStart => exact ⟨0, by omega, rfl, by simp [wts], nq0, rfl⟩
            case round =>
              obtain ⟨m, hm, rfl, rfl, nq1, rfl⟩ := hrel
              have hbd := wts_bd (P.take m) key.data.toList (fun p hp => by have := HPB.out p (List.mem_of_mem_take hp); omega)
              have htl : (P.take m).length ≤ m := List.length_take_le _ _
              by_cases hmk : m < k
              · have hl := HPL.out
                obtain ⟨bA, offA, rfl, _, hcA⟩ := RD6.out.2 (by omega)
                obtain ⟨bW, offW, rfl, _, hcW⟩ := RW6.out.2 (by omega)
                obtain ⟨p, hp⟩ : ∃ p, P[m]? = some p := ⟨P[m]'(by omega), by simp [show m < P.length by omega]⟩
                have hA := hcA m (.string p.1) (by simp [hp])
                have hW := hcW m (.int .u16 (ws.getD m 0)) (by have := HWL.out; simp [List.getD, show m < ws.length by omega])
                have hpw := HPW.out m p hp
                have hpb := HPB.out p (List.mem_of_getElem? hp)
                have hsn : P.take (m + 1) = P.take m ++ [p] := by
                  rw [List.take_succ_eq_append_getElem (by omega)]
                  rw [List.getElem?_eq_getElem (by omega)] at hp
                  injection hp with hp
                  rw [hp]
                have hst := wts_snoc (P.take m) p key.data.toList
                rw [← hsn] at hst
                rw [← hpw] at hW
                obtain ⟨t, x⟩ := p
                simp only at hA hW hpb hst
                have HST := hide hst
                have hx0 := hpb.1
                have hx1 := hpb.2.1
                have hmI : (m : Int) < (k : Int) := by omega
                have hmI2 : (m : Int) < (n1 : Int) := by omega
                have hf2 : wts (P.take m) key.data.toList ≤ 3276800 := by omega
                generalize wts (P.take m) key.data.toList = f at *
                clear hcA hcW hp hpw hsn hst hpb htl hl
                by_cases hte : t = key
                · subst hte
                  go_wp2_with fail
                  go_roundw
                  case rel => exact ⟨m + 1, by omega, by go_num, by rw [HST.out, if_pos rfl], nq1, rfl⟩
                  case measure => simp [intOf]; omega
                · have hb : (t.toList == key.toList) = false := by
                    rw [beq_eq_false_iff_ne, ByteArray.toList_eq, ByteArray.toList_eq]
                    exact fun h => hte (bytes_ext h)
                  have hne : ¬ key.data.toList = t.data.toList := fun h => hte (bytes_ext h.symm)
                  have HNE := hide hne
                  clear hte hne
                  go_wp2_with fail
                  go_roundw
                  case rel => exact ⟨m + 1, by omega, by go_num, by rw [HST.out, if_neg HNE.out], nq1, rfl⟩
                  case measure => simp [intOf]; omega
              · have hmk2 : m = k := by omega
                have hall : P.take m = P := List.take_of_length_le (by have := HPL.out; omega)
                rw [hall]
                rw [hall] at hbd
                generalize wts P key.data.toList = f at *
                clear hall htl
                go_wp2_with fail
                refine (HES.out _).mono ?_
                rintro e w7 ⟨rfl, nq2, rfl⟩
                go_wp2_with fail
                refine (HTOT.out _).mono ?_
                rintro e w7 ⟨rfl, rfl⟩
                go_wp2_with fail
                go_roundw
                case rel => exact ⟨j + 1, by omega, by go_num, _, rfl⟩
                case measure => simp [intOf]; omega
          · go_wp2_with fail
            refine (awake16 _).mono ?_
            rintro e w7 ⟨rfl, k7⟩
            have K7 := hide ((KP6.out.drewN _).trans k7)
            clear k7
            go_wp2_with fail
            go_ret
            exact ⟨rfl, K7.out.done⟩
    ·
      obtain ⟨R, T, P, A, c, rfl, sk, hT, hPl, hPw, hPb, ok, hov, dk, kp⟩ := hrel
      have hdd := sk.dd
      have hnn := sk.nn
      have htt := sk.tt
      have OK := hide ok
      have SK := hide sk
      have KP := hide kp
      have HPL := hide hPl
      have HPW := hide hPw
      have HPB := hide hPb
      have HOV := hide hov
      clear ok sk kp hPl hPw hPb hov dk
      go_wp2_with (at_builtin; refine wpList_app1 _ elemStr (by omega) rfl (.tmp 73) (.tmp 74) rfl w3.heap.size _ rfl (OK.out.kept ((Keeps.refl (fun _ => False) wr).alloc _) (fun _ _ h => h)) _ (m := 1) [.string ⟨#[110, 111, 110, 101]⟩] rfl (by omega) (by exact Blk.rd (xs := [.string ⟨#[110, 111, 110, 101]⟩]) (Blk.new_at _ _ _ _ (by simp)) rfl) (by simp [Value.oneCell']) (by simp only [maxLen]; omega) (by omega) (by simp; omega) ?_; intro A6 c6 w6 o6 k6 hA6 rd6; have O6 := hide o6; have K6 := hide k6; have RD6 := hide rd6; clear o6 k6 hA6 rd6)
      have KA := (Keeps.refl (fun _ => False) wr).alloc (.cells #[.string ⟨#[110, 111, 110, 101]⟩] 9)
      have hAlo : ∀ j, inB A j → w3.heap.size ≤ j := fun j h => (OK.out.inB h).1
      have SK6 := hide ((SK.out.kept KA (fun _ _ _ h => h)).kept K6.out (fun j h1 h2 h => by have := hAlo j h; omega))
      have KP6 := hide ((KP.out.trans KA).step K6.out (fun j hj h => by have := hAlo j h; omega))
      obtain ⟨g6, rfl, hg6, hg6'⟩ := O6.out.some_ (by omega)
      have RW6 := hide (HR1.out.kept KP6.out (fun _ _ h => h))
      have HEST := hide (fun q key (hk : ByteArray.size key ≤ 140737488351232) => estimate_any (SK6.out.drewN q) key hk)
      have HTOT := hide (fun q => total_any (SK6.out.drewN q))
      have HLO := hide (fun key => Cmp.over_least (t := zs) (seed := seed) SK.out.fine (by omega) (by omega) (by unfold Cmp.big; omega) HOV.out key)
      have HLB := hide (fun key => Cmp.least_bd (t := zs) (seed := seed) (k := key) SK.out.fine (by omega) (by omega))
      clear KA hAlo
      go_loopw [77] (fun i wr => ∃ j : Nat, j ≤ k + 1 ∧ i = .int .i64 j ∧ ∃ nq, wr = w6.drewN nq) (fun i _ => k + 1 - (intOf i).toNat)
      case atStart => exact ⟨0, by omega, rfl, 0, rfl⟩
      case round =>
        obtain ⟨j, hj, rfl, nq0, rfl⟩ := hrel
        by_cases hjk : j < k + 1
        · have hc6 := O6.out.cell j (by omega)
          obtain ⟨key, hkey, hks⟩ : ∃ key : ByteArray, (P.map (fun p => Value.string p.1) ++ [Value.string ⟨#[110, 111, 110, 101]⟩])[j]? = some (.string key) ∧ key.size ≤ 4 := by
            have hl := HPL.out
            by_cases hjl : j < k
            · rw [List.getElem?_append_left (by simp; omega)]
              refine ⟨(P[j]'(by omega)).1, by simp [show j < P.length by omega], ?_⟩
              have := (HPB.out (P[j]'(by omega)) (List.getElem_mem _)).2.2
              omega
            · obtain rfl : j = k := by omega
              rw [List.getElem?_append_right (by simp; omega)]
              exact ⟨⟨#[110, 111, 110, 101]⟩, by simp [hl], by decide⟩
          rw [hkey] at hc6
          have hjI : (j : Int) < (k : Int) + 1 := by omega
          have hlo := HLO.out key.data.toList
          have hlb := HLB.out key.data.toList
          have hest := fun q => HEST.out q key (by omega)
          obtain ⟨est, he⟩ : ∃ est, est = Cmp.least R zs seed key.data.toList d := ⟨_, rfl⟩
          rw [← he] at hlo hlb hest
          have HES := hide hest
          have hlo' := hlo
          clear hkey he hest hlo
          go_wp2_with fail
          go_loopw [18, 83] (fun f i wr => ∃ m : Nat, m ≤ k ∧ i = .int .i64 m ∧ f = .int .u64 (wts (P.take m) key.data.toList) ∧ ∃ nq, wr = w6.drewN nq) (fun _ i _ => k - (intOf i).toNat)
          case atStart => exact ⟨0, by omega, rfl, by simp [wts], nq0, rfl⟩
          case round =>
            obtain ⟨m, hm, rfl, rfl, nq1, rfl⟩ := hrel
            have hbd := wts_bd (P.take m) key.data.toList (fun p hp => by have := HPB.out p (List.mem_of_mem_take hp); omega)
            have htl : (P.take m).length ≤ m := List.length_take_le _ _
            by_cases hmk : m < k
            · have hl := HPL.out
              obtain ⟨bA, offA, rfl, _, hcA⟩ := RD6.out.2 (by omega)
              obtain ⟨bW, offW, rfl, _, hcW⟩ := RW6.out.2 (by omega)
              obtain ⟨p, hp⟩ : ∃ p, P[m]? = some p := ⟨P[m]'(by omega), by simp [show m < P.length by omega]⟩
              have hA := hcA m (.string p.1) (by simp [hp])
              have hW := hcW m (.int .u16 (ws.getD m 0)) (by have := HWL.out; simp [List.getD, show m < ws.length by omega])
              have hpw := HPW.out m p hp
              have hpb := HPB.out p (List.mem_of_getElem? hp)
              have hsn : P.take (m + 1) = P.take m ++ [p] := by
                rw [List.take_succ_eq_append_getElem (by omega)]
                rw [List.getElem?_eq_getElem (by omega)] at hp
                injection hp with hp
                rw [hp]
              have hst := wts_snoc (P.take m) p key.data.toList
              rw [← hsn] at hst
              rw [← hpw] at hW
              obtain ⟨t, x⟩ := p
              simp only at hA hW hpb hst
              have HST := hide hst
              have hx0 := hpb.1
              have hx1 := hpb.2.1
              have hmI : (m : Int) < (k : Int) := by omega
              have hmI2 : (m : Int) < (n1 : Int) := by omega
              have hf2 : wts (P.take m) key.data.toList ≤ 3276800 := by omega
              generalize wts (P.take m) key.data.toList = f at *
              clear hcA hcW hp hpw hsn hst hpb htl hl
              by_cases hte : t = key
              · subst hte
                go_wp2_with fail
                go_roundw
                case rel => exact ⟨m + 1, by omega, by go_num, by rw [HST.out, if_pos rfl], nq1, rfl⟩
                case measure => simp [intOf]; omega
              · have hb : (t.toList == key.toList) = false := by
                  rw [beq_eq_false_iff_ne, ByteArray.toList_eq, ByteArray.toList_eq]
                  exact fun h => hte (bytes_ext h)
                have hne : ¬ key.data.toList = t.data.toList := fun h => hte (bytes_ext h.symm)
                have HNE := hide hne
                clear hte hne
                go_wp2_with fail
                go_roundw
                case rel => exact ⟨m + 1, by omega, by go_num, by rw [HST.out, if_neg HNE.out], nq1, rfl⟩
                case measure => simp [intOf]; omega
            · have hmk2 : m = k := by omega
              have hall : P.take m = P := List.take_of_length_le (by have := HPL.out; omega)
              rw [hall]
              rw [hall] at hbd
              generalize wts P key.data.toList = f at *
              clear hall htl
              go_wp2_with fail
              refine (HES.out _).mono ?_
              rintro e w7 ⟨rfl, nq2, rfl⟩
              go_wp2_with fail
              refine (HTOT.out _).mono ?_
              rintro e w7 ⟨rfl, rfl⟩
              go_wp2_with fail
              go_roundw
              case rel => exact ⟨j + 1, by omega, by go_num, _, rfl⟩
              case measure => simp [intOf]; omega
        · go_wp2_with fail
          refine (awake16 _).mono ?_
          rintro e w7 ⟨rfl, k7⟩
          have K7 := hide ((KP6.out.drewN _).trans k7)
          clear k7
          go_wp2_with fail
          go_ret
          exact ⟨rfl, K7.out.done⟩
end countminBounds
end Go.Proofs.Ytaiopdipldaimaa
