/-
  StreamFrames: the bodies of frames come out as they were put in; the walk. No conditions beyond those of the statement.
-/
import Derived.Test.YtmbmlkllhcgkgaaLaw06b
import Derived.Test.YtmbmlkllhcgkgaaArgs
set_option linter.unusedVariables false
set_option linter.unusedSimpArgs false
namespace Go.Proofs.Ytmbmlkllhcgkgaa
open Go.RowKit
open Vp Stp

def byts (zs : List Int) : List UInt8 := zs.map (fun z => z.toNat.toUInt8)
theorem byts_map (zs : List Int) (hb : ∀ z ∈ zs, (Lit.int .u8 z).wf = true) : (byts zs).map by8 = zs.map (.int .u8) := by
  unfold byts
  rw [List.map_map]
  refine List.map_congr_left fun z hz => ?_
  have := wf_u8 (hb z hz)
  show Value.int .u8 ((z.toNat.toUInt8.toNat : Nat) : Int) = _
  rw [u8_toNat _ (by omega)]
  congr 1; omega
theorem Rd.rdP {w : World} {B sz n : Nat} {A : Option Addr} {xs : List Value} (h : Rd w B A sz n xs) (hB : B ≤ w.heap.size) : RdP w (· < B) A sz n xs :=
  ⟨h.1, fun hn => by obtain ⟨b, off, e, hb, hc⟩ := h.2 hn; exact ⟨b, off, e, hb, by omega, hc⟩⟩
/-- the bodies, cut at 200 bytes -/
def bods (R : RowsF) (k : Nat) : List (List UInt8) := (List.range k).map fun j => (byts (R j).2.2.2).take 200
theorem bods_succ (R : RowsF) (k : Nat) : bods R (k + 1) = bods R k ++ [(byts (R k).2.2.2).take 200] := by
  unfold bods; rw [List.range_succ, List.map_append]; rfl
theorem bods_len (R : RowsF) (k : Nat) : ∀ b ∈ bods R k, b.length ≤ 200 := by
  intro b hb
  unfold bods at hb
  simp only [List.mem_map] at hb
  obtain ⟨j, _, rfl⟩ := hb
  rw [List.length_take]; omega
theorem flat_len (l : List (List UInt8)) (h : ∀ b ∈ l, b.length ≤ 200) : (l.flatMap frame).length ≤ 210 * l.length := by
  induction l with
  | nil => simp
  | cons b l ih =>
    have h1 := h b (by simp)
    have h2 := ih (fun x hx => h x (by simp [hx]))
    have h3 := enc_len b.length
    rw [List.flatMap_cons, List.length_append, List.length_cons]
    have : (frame b).length = (enc b.length).length + b.length := by simp [frame]
    omega

namespace streamFrames
/-- between two rounds -/
def Rel (w : World) (R : RowsF) (k : Nat) (b want : Value) (wr : World) : Prop :=
  ∃ (A : Option Addr) (n c : Nat) (C : Option Addr) (m mc : Nat) (cells : List Value), b = .slice A n c ∧ want = .slice C m mc ∧ Own wr w.heap.size 5 1 A n c (((bods R k).flatMap frame).map by8) ∧
    Own wr w.heap.size 42 2 C m mc cells ∧ ChCells wr (· < w.heap.size) cells ((bods R k).map fun b => ⟨b, 0⟩) ∧ Keeps (fun _ => False) w wr
set_option maxRecDepth 100000 in
set_option maxHeartbeats 2000000 in
theorem walk (w : World) (A0 : Option Addr) (n0 c0 : Nat) (R : RowsF) (hr : Rd w w.heap.size A0 1 n0 ((List.range n0).map fun j => .slice (R j).1 (R j).2.1 (R j).2.2.1)) (hrr : RowsRd w w.heap.size .u8 n0 R) (hn : n0 * 24 ≤ 140737488351232) (hc : n0 ≤ c0) :
    Calls Try.prog 6 #[.slice A0 n0 c0] w fun e w' => e = .returned (.bool true) ∧ Below w.heap.size w w' := by
  have HR := hide hr
  have HRR := hide hrr
  clear hr hrr
  go_enter Try.func6, Try.ntmps6
  go_wp2_with fail
  go_loopw [3, 4, 5] (fun b want i wr => ∃ k : Nat, k ≤ n0 ∧ k ≤ 10 ∧ i = .int .i64 k ∧ Rel w R k b want wr) (fun _ _ i _ => n0 - (intOf i).toNat)
  case atStart => exact ⟨0, by omega, by omega, rfl, none, 0, 0, none, 0, 0, [], rfl, rfl, Own.nil _ _ _ _, Own.nil _ _ _ _, trivial, Keeps.refl _ _⟩
  case round =>
    obtain ⟨k, hk, hk10, rfl, A, n, c, C, m, mc, cells, rfl, rfl, ob, oc, ch, kp⟩ := hrel
    have hln := ob.len
    have hfl := flat_len (bods R k) (bods_len R k)
    have hbl : (bods R k).length = k := by simp [bods]
    have hnb : n ≤ 2100 := by rw [List.length_map] at hln; rw [hbl] at hfl; omega
    have hmb : m ≤ 10 := by have h1 := oc.len; have h2 := ch.len; rw [List.length_map, hbl] at h2; omega
    have OB := hide ob
    have OC := hide oc
    have CH := hide ch
    have KP := hide kp
    have hws := kp.size
    clear ob oc ch kp hln hfl hbl
    by_cases hlt : k < n0
    · by_cases hlt2 : k < 10
      · obtain ⟨b, off, rfl, _, hcc⟩ := (HR.out.kept KP.out (fun _ _ h => h)).2 (by omega)
        obtain ⟨hrk, hwf, hLC, _⟩ := HRR.out k hlt
        have hx := hcc k (.slice (R k).1 (R k).2.1 (R k).2.2.1) (by simp [hlt])
        have hb8 := byts_map _ hwf
        have HBS := hide (bods_succ R k)
        obtain ⟨x, hxx⟩ : ∃ x, x = byts (R k).2.2.2 := ⟨_, rfl⟩
        rw [← hb8, ← hxx] at hrk
        rw [← hxx] at HBS
        obtain ⟨Ak, Lk, Ck, hRk⟩ : ∃ a b c, (R k).1 = a ∧ (R k).2.1 = b ∧ (R k).2.2.1 = c := ⟨_, _, _, rfl, rfl, rfl⟩
        rw [hRk.1, hRk.2.1, hRk.2.2] at hx
        rw [hRk.1, hRk.2.1] at hrk
        rw [hRk.2.1, hRk.2.2] at hLC
        obtain ⟨A1, kk, hk2, hkm, hsr, _, hsl⟩ := sub_min elem8 Ak Lk Ck 200 hLC
        have hr1 := hsr w _ _ hrk
        have hxl : x.length = Lk := by simpa using hrk.1
        have htk : x.take kk = x.take 200 := by
          rcases hsl with ⟨h, rfl, _⟩ | ⟨h, rfl, _⟩
          · rw [List.take_of_length_le (by omega), List.take_of_length_le (by omega)]
          · rfl
        rw [Nat.mul_one, ← List.map_take, htk] at hr1
        have hkl : (x.take 200).length = kk := by rw [← htk, List.length_take]; omega
        generalize x.take 200 = y at *
        have HY := hide hr1
        have HYL := hide hkl
        clear hcc hrk hwf hb8 hxx hRk hsr hr1 hxl htk hkl hLC
        have hltI : (k : Int) < (n0 : Int) := by omega
        rcases hsl with ⟨hc1, hkk, hsl⟩ | ⟨hc1, hkk, hsl⟩
        all_goals
          clear hkk
          rw [show ((200 : Nat) : Int) = 200 from rfl] at hc1
          try rw [show ((200 : Nat) : Int) = 200 from rfl] at hsl
          go_wp2_with fail
          go_quiet (fail)
          go_wp2_with fail
          refine (Varint.rappend_any _ A n c _ (wr.drewN nq) ((OB.out.rd (by omega)).drewN nq) (by simp) (by omega) (kk : Int) (by omega) (by omega)).mono ?_
          rintro e w1 ⟨A2, n2, c2, hn2, rfl, o2, k2⟩
          rw [Int.toNat_natCast] at o2 hn2
          have hn2' : n2 ≤ 2200 := by
            have h1 := enc_len kk
            have h2 := OB.out.len
            rw [List.length_map] at h2
            rw [List.length_append] at hn2
            omega
          have hw1 := k2.size
          simp only [World.heap_drewN] at hw1
          have K1 := hide ((KP.out.drewN nq).trans k2)
          have O2 := hide (o2.base_le (show w.heap.size ≤ _ by simp; omega))
          have C2 := hide ((OC.out.drewN nq).kept k2 (fun _ _ h => h))
          have H2 := hide (ChCells.kept k2 (fun _ _ _ h => h) (show ChCells (wr.drewN nq) _ _ _ from ChCells.kept ((Keeps.refl (fun _ => False) wr).drewN nq) (fun _ _ _ h => h) CH.out))
          have Y2 := hide (HY.out.kept K1.out (fun _ _ h => h))
          have hO2 : ∀ j, inB A2 j → wr.heap.size ≤ j := fun j h => by have := (o2.inB h).1; simpa using this
          have HO2 := hide hO2
          have hCB : ∀ j, inB C j → w.heap.size ≤ j ∧ j < wr.heap.size := fun j h => OC.out.inB h
          have HCB := hide hCB
          clear o2 k2 hn2 hO2 hCB
          go_wp2_with (first
            | (at_builtin
               refine wpList_app _ elem8 rfl (.tmp 34) (.tmp 35) rfl w.heap.size _ rfl O2.out _ (m := kk) _ rfl Y2.out (by8_one _) (by simp only [maxLen]; omega) (by omega) (by omega) ?_
               intro A5 c5 w5 o5 k5 hA5
               rw [← List.map_append] at o5
               have hw5 := k5.size
               have C5 := hide (C2.out.kept k5 (fun b hb h => by have := HCB.out b hb; have := HO2.out b h; omega))
               have O5 := hide o5
               have K5 := hide k5
               have HA5 := hide hA5
               clear o5 k5 hA5)
            | (at_builtin
               refine wpList_app _ elemCh rfl (.tmp 37) (.tmp 40) rfl w.heap.size _ rfl (C5.out.kept ((Keeps.refl (fun _ => False) w5).alloc _) (fun _ _ h => h)) _ (m := 1) [.slice A1 kk Ck, .int .i64 0] rfl (by exact Blk.rd (xs := [.slice A1 kk Ck, .int .i64 0]) (Blk.new_at _ _ _ _ (by simp)) rfl) (by simp [Value.oneCell']) (by simp only [maxLen]; omega) (by omega) (by simp; omega) ?_
               intro C7 mc7 w7 o7 k7 hC7
               have O7 := hide o7
               have K7 := hide k7
               clear o7 k7 hC7))
          have KA := (Keeps.refl (fun _ => False) w5).alloc (.cells #[.slice A1 kk Ck, .int .i64 0] 42)
          have hO2 := HO2.out
          have hCB := HCB.out
          go_roundw
          case rel =>
            refine ⟨k + 1, by omega, by omega, by go_num, A5, n2 + kk, c5, C7, m + 1, mc7, _, rfl, rfl, ?_, O7.out, ?_, ?_⟩
            · have h1 : (bods R (k + 1)).flatMap frame = (bods R k).flatMap frame ++ enc kk ++ y := by
                rw [HBS.out, List.flatMap_append]
                simp [frame, HYL.out]
              rw [h1]
              have h2 := O5.out.kept KA (fun _ _ h => h)
              exact h2.kept K7.out (fun b hb h => h2.ne (C5.out.kept KA (fun _ _ h => h)) (by decide) hb h)
            · rw [HBS.out, List.map_append]
              refine ChCells.append (ChCells.kept K7.out (fun b hb _ h => by have := hCB b h; omega) (ChCells.kept KA (fun _ _ _ h => h) (ChCells.kept K5.out (fun b hb _ h => by have := hO2 b h; omega) H2.out))) ⟨⟨A1, kk, Ck, rfl, ?_⟩, rfl, trivial⟩
              have h1 := Y2.out.rdP (by omega)
              exact ((h1.kept K5.out (fun b hb _ h => by have := hO2 b h; omega)).kept KA (fun _ _ _ h => h)).kept K7.out (fun b hb _ h => by have := hCB b h; omega)
            · exact ((K1.out.step K5.out (fun b hb h => by have := hO2 b h; omega)).step KA (fun _ _ h => h)).step K7.out (fun b hb h => by have := hCB b h; omega)
          case measure => simp [intOf]; omega
      · have HF : Hid (feedL init ((bods R k).flatMap frame) = (init, (bods R k).map fun b => ⟨b, 0⟩)) := feed_frames _ (fun b hb => by have := bods_len R k b hb; omega)
        have hfeed := Feed_any init good_init (by decide) none 0 0 0 wr (Rd.zero rfl) (Nat.zero_le _) _ A n c _ (OB.out.rd (by omega)) (Nat.le_refl _) (by omega) (by rw [HF.out]; simp [bods]; omega)
        rw [HF.out] at hfeed
        dsimp only [init] at hfeed
        have HFD := hide hfeed
        clear hfeed HF
        go_wp2_with fail
        refine HFD.out.mono ?_
        rintro e w6 ⟨A6, n6, c6, C6, m6, mc6, cells6, rfl, o6, oc6, ch6, k6⟩
        dsimp only at o6 ch6
        obtain rfl : n6 = 0 := by simpa using o6.len.symm
        have K6 := hide (KP.out.trans k6)
        have OC6 := hide (oc6.rd (by omega))
        have CH6 := hide ch6
        have OC0 := hide ((OC.out.rd (by omega)).kept k6 (fun _ _ h => h))
        have CH0 := hide (ChCells.kept k6 (fun _ _ _ h => h) CH.out)
        have hm6 : m6 ≤ 10 := by have h1 := oc6.len; have h2 := ch6.len; have h3 : (bods R k).length = k := by simp [bods]
                                 rw [List.length_map, h3] at h2; omega
        clear o6 oc6 ch6 k6
        go_wp2_with fail
        refine (sameChunks_any _ C6 C m6 m mc6 mc cells6 cells _ _ _ _ _ (OC6.out.kept ((Keeps.refl (fun _ => False) w6).alloc _) (fun _ _ h => h)) (OC0.out.kept ((Keeps.refl (fun _ => False) w6).alloc _) (fun _ _ h => h)) (CH6.out.kept ((Keeps.refl (fun _ => False) w6).alloc _) (fun _ _ _ h => h)) (CH0.out.kept ((Keeps.refl (fun _ => False) w6).alloc _) (fun _ _ _ h => h)) (by omega) ?_).mono ?_
        · intro ch hch
          simp only [List.mem_map] at hch
          obtain ⟨b, hb, rfl⟩ := hch
          have := bods_len R k b hb
          show b.length ≤ _
          omega
        rintro e w7 ⟨rfl, nq, rfl⟩
        go_wp2_with fail
        refine (idle_any 0 false A6 0 c6 _).mono ?_
        rintro e w8 ⟨rfl, k8⟩
        rw [show idleB 0 false 0 = true from rfl]
        have K8 := hide (((K6.out.alloc _).drewN nq).trans k8)
        clear k8
        go_wp2_with fail
        refine (awake06 _).mono ?_
        rintro e w9 ⟨rfl, k9⟩
        have K9 := hide (K8.out.trans k9)
        clear k9
        go_wp2_with fail
        go_ret
        exact ⟨rfl, K9.out.done⟩
    · have HF : Hid (feedL init ((bods R k).flatMap frame) = (init, (bods R k).map fun b => ⟨b, 0⟩)) := feed_frames _ (fun b hb => by have := bods_len R k b hb; omega)
      have hfeed := Feed_any init good_init (by decide) none 0 0 0 wr (Rd.zero rfl) (Nat.zero_le _) _ A n c _ (OB.out.rd (by omega)) (Nat.le_refl _) (by omega) (by rw [HF.out]; simp [bods]; omega)
      rw [HF.out] at hfeed
      dsimp only [init] at hfeed
      have HFD := hide hfeed
      clear hfeed HF
      go_wp2_with fail
      refine HFD.out.mono ?_
      rintro e w6 ⟨A6, n6, c6, C6, m6, mc6, cells6, rfl, o6, oc6, ch6, k6⟩
      dsimp only at o6 ch6
      obtain rfl : n6 = 0 := by simpa using o6.len.symm
      have K6 := hide (KP.out.trans k6)
      have OC6 := hide (oc6.rd (by omega))
      have CH6 := hide ch6
      have OC0 := hide ((OC.out.rd (by omega)).kept k6 (fun _ _ h => h))
      have CH0 := hide (ChCells.kept k6 (fun _ _ _ h => h) CH.out)
      have hm6 : m6 ≤ 10 := by have h1 := oc6.len; have h2 := ch6.len; have h3 : (bods R k).length = k := by simp [bods]
                               rw [List.length_map, h3] at h2; omega
      clear o6 oc6 ch6 k6
      go_wp2_with fail
      refine (sameChunks_any _ C6 C m6 m mc6 mc cells6 cells _ _ _ _ _ (OC6.out.kept ((Keeps.refl (fun _ => False) w6).alloc _) (fun _ _ h => h)) (OC0.out.kept ((Keeps.refl (fun _ => False) w6).alloc _) (fun _ _ h => h)) (CH6.out.kept ((Keeps.refl (fun _ => False) w6).alloc _) (fun _ _ _ h => h)) (CH0.out.kept ((Keeps.refl (fun _ => False) w6).alloc _) (fun _ _ _ h => h)) (by omega) ?_).mono ?_
      · intro ch hch
        simp only [List.mem_map] at hch
        obtain ⟨b, hb, rfl⟩ := hch
        have := bods_len R k b hb
        show b.length ≤ _
        omega
      rintro e w7 ⟨rfl, nq, rfl⟩
      go_wp2_with fail
      refine (idle_any 0 false A6 0 c6 _).mono ?_
      rintro e w8 ⟨rfl, k8⟩
      rw [show idleB 0 false 0 = true from rfl]
      have K8 := hide (((K6.out.alloc _).drewN nq).trans k8)
      clear k8
      go_wp2_with fail
      refine (awake06 _).mono ?_
      rintro e w9 ⟨rfl, k9⟩
      have K9 := hide (K8.out.trans k9)
      clear k9
      go_wp2_with fail
      go_ret
      exact ⟨rfl, K9.out.done⟩
end streamFrames
end Go.Proofs.Ytmbmlkllhcgkgaa
