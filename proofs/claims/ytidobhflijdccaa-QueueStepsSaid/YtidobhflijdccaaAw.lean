/-
  arena.Free, Write, Read. No conditions beyond those of the statement.
-/
import Derived.Test.YtidobhflijdccaaAv
set_option linter.unusedVariables false
set_option linter.unusedSimpArgs false
namespace Go.Proofs.Ytidobhflijdccaa
open Go.RowKit
section
variable {w W : World} {B a i C S n sc k q0 : Nat} {bv : Array Value} {s : Ar} {c : Cls} {ls : List Slot} {x : Slot}
theorem Tl.start (h : IsAr w B a s) (kk : Keeps (fun _ => False) w W) (b : Blk W q0 40 bv) (hC : s.CA = some ⟨C, 0, none⟩) (hc : s.cls[i]? = some c) (hS : c.SA = some ⟨S, 0, none⟩) (hx : c.slots[k]? = some x) :
    Tl w B a i C S c.slots.length c.sc k q0 bv s c c.slots x W := by
  obtain ⟨HO, HB⟩ := (h.quiet kk).open_ hc
  obtain ⟨_, HB0⟩ := h.open_ hc
  have o := HB.sl
  rw [hS] at o
  refine ⟨HO, o, hx, fun j y _ hy => HB.da j y hy, b, kk.weak (fun _ _ h => h.elim), fun j d hj hd hb => HB.dj j d hj hd S (by rw [hS]; exact ⟨_, rfl, rfl⟩) hb, fun b hb e => ?_, ArS.cls h hC, hC, hc, ⟨hS, rfl, rfl⟩⟩
  subst e
  have o0 := HB0.sl
  rw [hS] at o0
  exact ArS.slot o0
theorem Tl.free (h : Tl w B a i C S n sc k q0 bv s c ls x W) (j : Nat) (f : Int) (hj : j < 8) (ha : ArS B w a) : Tl w B a i C S n sc k q0 bv { s with free := s.free.set j f } c ls x (W.setCell ⟨a, 1 + j, none⟩ (.int .i64 f)) := by
  have kk := keepsOne W a (1 + j) (.int .i64 f)
  have hno : ∀ {e sz n c : Nat} {A : Option Addr} {xs : List Value}, Own W B e sz A n c xs → 122 ≠ e → ∀ b, inB A b → ¬ b = a := fun o he b hb hS => by
    obtain ⟨cs, hb'⟩ := o.blk hb
    rw [hS] at hb'
    exact he (blk_type h.H.blk hb')
  exact ⟨h.H.setFree j f hj, h.O.kept kk (hno h.O (by decide)), h.hx, fun q y hq hy => (h.da q y hq hy).kept kk (hno (h.da q y hq hy) (by decide)), h.bx.kept kk (fun e => absurd (blk_type h.bx (e ▸ h.H.blk)) (by decide)), h.K.step kk (fun b hb e => by subst e; exact ha), h.dj, h.hS, h.hCw, h.hC, h.hc, h.hcs⟩
end
/-- a slot that was freed -/
def Slot.freed (x : Slot) (f : Int) : Slot := { x with used := false, next := f, D := none, dc := 0, data := [] }

set_option maxRecDepth 100000 in
set_option maxHeartbeats 1000000 in
theorem free_ok (B a : Nat) (s : Ar) (i k C S : Nat) (ha f : Int) (c : Cls) (x : Slot) (w : World) (h : IsAr w B a s) (hn : s.cls.length ≤ 8) (hl : c.slots.length ≤ 65536) (hv : Live s i k ha c x) (hC : s.CA = some ⟨C, 0, none⟩) (hS : c.SA = some ⟨S, 0, none⟩) (hf : s.free[i]? = some f)
    (hlive : 1 ≤ c.live ∧ c.live < 4611686018427387904) :
    Calls Try.prog 25 #[.pointer (some ⟨a, 0, none⟩), .agg #[.int .i64 i, .int .i64 k, .int .i64 ha]] w fun e w' => e = .returned (.int .i64 0) ∧
      IsAr w' B a { s with free := s.free.set i k, cls := s.cls.set i { c with slots := c.slots.set k (x.freed f), live := c.live - 1 } } ∧ Keeps (ArS B w) w w' := by
  have hi8 : i < 8 := by have := (List.getElem?_eq_some_iff.1 hv.hc).1; omega
  have k1 := (Keeps.refl (fun _ => False) w).alloc (.cells #[.int .i64 (i : Int), .int .i64 (k : Int), .int .i64 ha] 40)
  have b1 := Blk.new w 40 #[.int .i64 (i : Int), .int .i64 (k : Int), .int .i64 ha]
  have HF := hide (find_ok B a s i k C S ha c x _ (h.quiet k1) hn hl hv hC hS)
  have H0 := hide h
  have K1 := hide k1
  have B1 := hide b1
  obtain ⟨⟨q0, q1, q2⟩, ⟨f0, f1, f2⟩, hz⟩ := b1.three
  have HV := hide hv
  have HC := hide hC
  have HS := hide hS
  have HFr := hide hf
  have HAr := hide (ArS.ar h)
  obtain ⟨sn, hsn⟩ : ∃ sn, sn = c.slots.length := ⟨_, rfl⟩
  have hkn := (List.getElem?_eq_some_iff.1 hv.hx).1
  have HSn := hide hsn
  clear h k1 b1 hv hC hS hf hsn hkn
  go_enter Try.func25, Try.ntmps25
  go_wp2_with fail
  refine HF.out.mono ?_
  rintro e w2 ⟨rfl, k2⟩
  have T := hide (Tl.start H0.out (K1.out.trans k2) (B1.out.kept k2 (fun h => h)) HC.out HV.out.hc HS.out HV.out.hx)
  rw [← HSn.out] at T
  clear k2 HF K1 B1 q0 q1 q2 f0 f1 f2
  have hCS : C ≠ S := fun e => by obtain ⟨c1, h1⟩ := T.out.blkC; obtain ⟨c2, h2⟩ := T.out.blkS; exact absurd (blk_type h1 (e ▸ h2)) (by decide)
  obtain ⟨⟨q0, q1, q2⟩, _, hz2⟩ := T.out.bx.three
  obtain ⟨p0, p1, p2, p3⟩ := T.out.slotCell
  have cf := T.out.H.free_cell HFr.out
  have fS1 := T.out.O.frozen (k * 4 + 1)
  have fS2 := T.out.O.frozen (k * 4 + 2)
  have fS3 := T.out.O.frozen (k * 4 + 3)
  have hiI : (i : Int) < 8 := by omega
  have hi0 : (0 : Int) ≤ (i : Int) := by omega
  go_upto_region 4 with fail
  trace "R4"
  go_region
  have T1 := hide (T.out.slot 1 (by omega) { x with used := false } (.bool false) rfl)
  have T2 := hide (T1.out.slot 3 (by omega) { x with used := false, D := none, dc := 0, data := [] } (.slice none 0 0) rfl)
  have T3 := hide ((T2.out.slot 2 (by omega) (x.freed f) (.int .i64 f) rfl).drew)
  clear T1 T2 T p0 p1 p2 p3 cf fS1 fS2 fS3 q0 q1 q2 hz2
  generalize (((w2.setCell _ _).setCell _ _).setCell _ _).drew = w5 at *
  obtain ⟨⟨q0, q1, q2⟩, _, hz2⟩ := T3.out.bx.three
  have fa := T3.out.H.blk.frozen (1 + i)
  have cf := T3.out.H.free_cell HFr.out
  have T4 := hide ((T3.out.free i k (by omega) HAr.out).drew)
  trace "R5"
  go_upto_region 5 with fail
  go_region
  trace "R5b"
  clear T3 q0 q1 q2 hz2 fa cf
  generalize (w5.setCell _ _).drew = w6 at *
  obtain ⟨p2, p3⟩ := T4.out.clsCell
  have f3 := T4.out.frozenC (i * 4 + 3)
  have hlw : IntKind.i64.wrap (c.live - 1) = c.live - 1 := IntWalk.i64_in _ (by omega)
  have HE := hide (T4.out.done (c.live - 1) (by simp) (Own.nil _ _ _ _))
  go_wp2_with fail
  trace "END"
  go_ret
  obtain ⟨h1, h2, h3, h4⟩ := HE.out
  refine ⟨rfl, ?_, h3⟩
  simpa [List.set_set] using h1

/-- the handle is not live: a fault -/
structure Stale (s : Ar) (hc hk ha : Int) : Prop where
  ls : ∀ (i : Nat) (c : Cls), s.cls[i]? = some c → c.slots.length ≤ 65536
  no : ∀ (i k : Nat) (c : Cls) (x : Slot), hc = (i : Int) → hk = (k : Int) → ¬ Live s i k ha c x
  fa : 0 ≤ s.faults ∧ s.faults < 4611686018427387904
theorem free_stale (B a : Nat) (s : Ar) (hc hk ha : Int) (w : World) (h : IsAr w B a s) (hn : s.cls.length ≤ 8) (hst : Stale s hc hk ha) :
    Calls Try.prog 25 #[.pointer (some ⟨a, 0, none⟩), .agg #[.int .i64 hc, .int .i64 hk, .int .i64 ha]] w fun e w' => e = .returned (.int .i64 9) ∧ IsAr w' B a { s with faults := s.faults + 1 } ∧ Keeps (ArS B w) w w' := by
  have k1 := (Keeps.refl (fun _ => False) w).alloc (.cells #[.int .i64 hc, .int .i64 hk, .int .i64 ha] 40)
  have b1 := Blk.new w 40 #[.int .i64 hc, .int .i64 hk, .int .i64 ha]
  have HF := hide (find_stale B a s hc hk ha _ (h.quiet k1) hn hst.ls hst.no hst.fa)
  have K1 := hide k1
  obtain ⟨⟨q0, q1, q2⟩, ⟨f0, f1, f2⟩, hz⟩ := b1.three
  clear h k1 b1 hst
  go_enter Try.func25, Try.ntmps25
  go_wp2_with fail
  refine HF.out.mono ?_
  rintro e w2 ⟨rfl, h2, k2⟩
  have H2 := hide h2
  have K2 := hide (ArS.quiet K1.out k2)
  clear h2 k2
  go_wp2_with fail
  go_ret
  exact ⟨rfl, H2.out, K2.out⟩
theorem write_stale (B a : Nat) (s : Ar) (hc hk ha : Int) (D : Option Addr) (n m : Nat) (w : World) (h : IsAr w B a s) (hn : s.cls.length ≤ 8) (hst : Stale s hc hk ha) :
    Calls Try.prog 31 #[.pointer (some ⟨a, 0, none⟩), .agg #[.int .i64 hc, .int .i64 hk, .int .i64 ha], .slice D n m] w fun e w' => e = .returned (.int .i64 9) ∧ IsAr w' B a { s with faults := s.faults + 1 } ∧ Keeps (ArS B w) w w' := by
  have k1 := (Keeps.refl (fun _ => False) w).alloc (.cells #[.int .i64 hc, .int .i64 hk, .int .i64 ha] 40)
  have b1 := Blk.new w 40 #[.int .i64 hc, .int .i64 hk, .int .i64 ha]
  have HF := hide (find_stale B a s hc hk ha _ (h.quiet k1) hn hst.ls hst.no hst.fa)
  have K1 := hide k1
  obtain ⟨⟨q0, q1, q2⟩, ⟨f0, f1, f2⟩, hz⟩ := b1.three
  clear h k1 b1 hst
  go_enter Try.func31, Try.ntmps31
  go_wp2_with fail
  refine HF.out.mono ?_
  rintro e w2 ⟨rfl, h2, k2⟩
  have H2 := hide h2
  have K2 := hide (ArS.quiet K1.out k2)
  clear h2 k2
  go_wp2_with fail
  go_ret
  exact ⟨rfl, H2.out, K2.out⟩
theorem read_stale (B a : Nat) (s : Ar) (hc hk ha : Int) (w : World) (h : IsAr w B a s) (hn : s.cls.length ≤ 8) (hst : Stale s hc hk ha) :
    Calls Try.prog 33 #[.pointer (some ⟨a, 0, none⟩), .agg #[.int .i64 hc, .int .i64 hk, .int .i64 ha]] w fun e w' => e = .returned (.tuple #[.slice none 0 0, .int .i64 9]) ∧ IsAr w' B a { s with faults := s.faults + 1 } ∧ Keeps (ArS B w) w w' := by
  have k1 := (Keeps.refl (fun _ => False) w).alloc (.cells #[.int .i64 hc, .int .i64 hk, .int .i64 ha] 40)
  have b1 := Blk.new w 40 #[.int .i64 hc, .int .i64 hk, .int .i64 ha]
  have HF := hide (find_stale B a s hc hk ha _ (h.quiet k1) hn hst.ls hst.no hst.fa)
  have K1 := hide k1
  obtain ⟨⟨q0, q1, q2⟩, ⟨f0, f1, f2⟩, hz⟩ := b1.three
  clear h k1 b1 hst
  go_enter Try.func33, Try.ntmps33
  go_wp2_with fail
  refine HF.out.mono ?_
  rintro e w2 ⟨rfl, h2, k2⟩
  have H2 := hide h2
  have K2 := hide (ArS.quiet K1.out k2)
  clear h2 k2
  go_wp2_with fail
  go_ret2
  exact ⟨rfl, H2.out, K2.out⟩

set_option maxRecDepth 100000 in
theorem read_ok (B a : Nat) (s : Ar) (i k C S : Nat) (ha : Int) (c : Cls) (x : Slot) (w : World) (h : IsAr w B a s) (hn : s.cls.length ≤ 8) (hl : c.slots.length ≤ 65536) (hv : Live s i k ha c x) (hC : s.CA = some ⟨C, 0, none⟩) (hS : c.SA = some ⟨S, 0, none⟩) (hd : x.data.length ≤ 65536) (hB : B ≤ w.heap.size) :
    Calls Try.prog 33 #[.pointer (some ⟨a, 0, none⟩), .agg #[.int .i64 i, .int .i64 k, .int .i64 ha]] w fun e w' => (∃ D m, e = .returned (.tuple #[.slice D x.data.length m, .int .i64 0]) ∧ Own w' w.heap.size 5 1 D x.data.length m (x.data.map by8)) ∧ Keeps (fun _ => False) w w' := by
  have k1 := (Keeps.refl (fun _ => False) w).alloc (.cells #[.int .i64 (i : Int), .int .i64 (k : Int), .int .i64 ha] 40)
  have b1 := Blk.new w 40 #[.int .i64 (i : Int), .int .i64 (k : Int), .int .i64 ha]
  have HF := hide (find_ok B a s i k C S ha c x _ (h.quiet k1) hn hl hv hC hS)
  have H0 := hide h
  have K1 := hide k1
  have B1 := hide b1
  obtain ⟨⟨q0, q1, q2⟩, ⟨f0, f1, f2⟩, hz⟩ := b1.three
  have HV := hide hv
  have HC := hide hC
  have HS := hide hS
  obtain ⟨sn, hsn⟩ : ∃ sn, sn = c.slots.length := ⟨_, rfl⟩
  have HSn := hide hsn
  clear h k1 b1 hv hC hS hsn
  obtain ⟨dn, hdn⟩ : ∃ dn, dn = x.data.length := ⟨_, rfl⟩
  have HDn := hide hdn
  rw [← hdn] at hd ⊢
  clear hdn
  go_enter Try.func33, Try.ntmps33
  go_wp2_with fail
  refine HF.out.mono ?_
  rintro e w2 ⟨rfl, k2⟩
  have T := hide (Tl.start H0.out (K1.out.trans k2) (B1.out.kept k2 (fun h => h)) HC.out HV.out.hc HS.out HV.out.hx)
  have hDa := (H0.out.quiet (K1.out.trans k2)).da i c (fun e => e) HV.out.hc k x HV.out.hx
  have K2 := hide (K1.out.trans k2)
  rw [← HDn.out] at hDa
  have HDa := hide hDa
  have hw2 : w.heap.size ≤ w2.heap.size := K2.out.size
  have hS2 : S < w2.heap.size := by obtain ⟨c1, h1⟩ := T.out.blkS; exact h1.lt
  obtain ⟨p0, p1, p2, p3⟩ := T.out.slotCell
  rw [← HDn.out] at p3
  clear k2 HF B1 q0 q1 q2 f0 f1 f2 hDa T p0 p1 p2 K1
  trace "READ"
  go_wp2_with (at_builtin; refine wpList_app _ elem8 rfl (.tmp 19) (.tmp 23) rfl w.heap.size _ rfl (Own.new0 _ _ 5 1 _ (by simp) (by omega)) _ (m := dn) _ rfl ((HDa.out.kept ((Keeps.refl (fun _ => False) w2).alloc _) (fun _ _ h => h)).rd (by omega)) (by8_one _) (by simp only [maxLen]; omega) (by omega) (by simp; omega) ?_; intro A7 c7 w7 o7 k7 _; rw [Nat.zero_add, List.nil_append] at o7; have O7 := hide o7; have K7 := hide (K2.out.trans (((Keeps.refl (fun _ => False) w2).alloc (.cells #[] 5)).step k7 (fun k hk h => by have := (inB_some _ _ _).1 h; omega))); clear o7 k7)
  trace "END"
  go_ret2
  exact ⟨⟨_, _, rfl, O7.out⟩, K7.out⟩

set_option maxRecDepth 100000 in
theorem write_long (B a : Nat) (s : Ar) (i k C S : Nat) (ha : Int) (c : Cls) (x : Slot) (D : Option Addr) (n m : Nat) (w : World) (h : IsAr w B a s) (hn : s.cls.length ≤ 8) (hl : c.slots.length ≤ 65536) (hv : Live s i k ha c x) (hC : s.CA = some ⟨C, 0, none⟩) (hS : c.SA = some ⟨S, 0, none⟩) (hlong : c.size < (n : Int)) :
    Calls Try.prog 31 #[.pointer (some ⟨a, 0, none⟩), .agg #[.int .i64 i, .int .i64 k, .int .i64 ha], .slice D n m] w fun e w' => e = .returned (.int .i64 4) ∧ Keeps (fun _ => False) w w' := by
  have k1 := (Keeps.refl (fun _ => False) w).alloc (.cells #[.int .i64 (i : Int), .int .i64 (k : Int), .int .i64 ha] 40)
  have b1 := Blk.new w 40 #[.int .i64 (i : Int), .int .i64 (k : Int), .int .i64 ha]
  have HF := hide (find_ok B a s i k C S ha c x _ (h.quiet k1) hn hl hv hC hS)
  have H0 := hide h
  have K1 := hide k1
  have B1 := hide b1
  obtain ⟨⟨q0, q1, q2⟩, ⟨f0, f1, f2⟩, hz⟩ := b1.three
  have HV := hide hv
  have HC := hide hC
  have HS := hide hS
  obtain ⟨sn, hsn⟩ : ∃ sn, sn = c.slots.length := ⟨_, rfl⟩
  have HSn := hide hsn
  clear h k1 b1 hv hC hS hsn
  go_enter Try.func31, Try.ntmps31
  go_wp2_with fail
  refine HF.out.mono ?_
  rintro e w2 ⟨rfl, k2⟩
  have HK := (H0.out.quiet (K1.out.trans k2)).own
  rw [HC.out] at HK
  have p0 := HK.cell (i * 4) (by have := (List.getElem?_eq_some_iff.1 HV.out.hc).1; omega)
  rw [(clsCs_at HV.out.hc).1] at p0
  have K2 := hide (K1.out.trans k2)
  clear k2 HF B1 q0 q1 q2 f0 f1 f2 K1 HK
  go_wp2_with fail
  go_ret
  exact ⟨rfl, K2.out⟩
set_option maxRecDepth 100000 in
theorem write_ok (B a : Nat) (s : Ar) (i k C S : Nat) (ha : Int) (c : Cls) (x : Slot) (D : Option Addr) (n m Bd : Nat) (bs : List UInt8) (w : World) (h : IsAr w B a s) (hn : s.cls.length ≤ 8) (hl : c.slots.length ≤ 65536) (hv : Live s i k ha c x) (hC : s.CA = some ⟨C, 0, none⟩) (hS : c.SA = some ⟨S, 0, none⟩) (hlong : (n : Int) ≤ c.size) (hcs : c.size ≤ 4096) (hr : Rd w Bd D 1 n (bs.map by8)) (hBd : Bd ≤ w.heap.size) (hB : B ≤ w.heap.size) :
    Calls Try.prog 31 #[.pointer (some ⟨a, 0, none⟩), .agg #[.int .i64 i, .int .i64 k, .int .i64 ha], .slice D n m] w fun e w' => e = .returned (.int .i64 0) ∧
      (∃ D' dc', IsAr w' B a { s with cls := s.cls.set i { c with slots := c.slots.set k { x with D := D', dc := dc', data := bs } } }) ∧ Keeps (ArS B w) w w' := by
  have k1 := (Keeps.refl (fun _ => False) w).alloc (.cells #[.int .i64 (i : Int), .int .i64 (k : Int), .int .i64 ha] 40)
  have b1 := Blk.new w 40 #[.int .i64 (i : Int), .int .i64 (k : Int), .int .i64 ha]
  have HF := hide (find_ok B a s i k C S ha c x _ (h.quiet k1) hn hl hv hC hS)
  have H0 := hide h
  have K1 := hide k1
  have B1 := hide b1
  obtain ⟨⟨q0, q1, q2⟩, ⟨f0, f1, f2⟩, hz⟩ := b1.three
  have HV := hide hv
  have HC := hide hC
  have HS := hide hS
  obtain ⟨sn, hsn⟩ : ∃ sn, sn = c.slots.length := ⟨_, rfl⟩
  have HSn := hide hsn
  clear h k1 b1 hv hC hS hsn
  have HR := hide hr
  clear hr
  go_enter Try.func31, Try.ntmps31
  go_wp2_with fail
  refine HF.out.mono ?_
  rintro e w2 ⟨rfl, k2⟩
  have T := hide (Tl.start H0.out (K1.out.trans k2) (B1.out.kept k2 (fun h => h)) HC.out HV.out.hc HS.out HV.out.hx)
  have HK := (H0.out.quiet (K1.out.trans k2)).own
  rw [HC.out] at HK
  have p0 := HK.cell (i * 4) (by have := (List.getElem?_eq_some_iff.1 HV.out.hc).1; omega)
  rw [(clsCs_at HV.out.hc).1] at p0
  have K2 := hide (K1.out.trans k2)
  have hw2 : w.heap.size ≤ w2.heap.size := K2.out.size
  have e1 : decide (c.size < (n : Int)) = false := by simp; omega
  have HR2 := hide (HR.out.kept K2.out (fun _ _ h => h))
  clear k2 HF B1 q0 q1 q2 f0 f1 f2 K1 HK HR
  trace "W"
  go_wp2_with (at_builtin; refine wpList_app _ elem8 rfl (.tmp 29) (.tmp 30) rfl w2.heap.size _ rfl (Own.new0 _ _ 5 1 _ (by simp) (by omega)) _ (m := n) _ rfl (HR2.out.kept ((Keeps.refl (fun _ => False) w2).alloc _) (fun _ _ h => h)) (by8_one _) (by simp only [maxLen]; omega) (by omega) (by simp) ?_; intro A7 c7 w7 o7 k7 _; rw [Nat.zero_add, List.nil_append] at o7; have O7 := hide (o7.base_le (show B ≤ w2.heap.size by omega)); have K7 := hide (((Keeps.refl (fun _ => False) w2).alloc (.cells #[] 5)).step k7 (fun k hk h => by have := (inB_some _ _ _).1 h; omega)); have T7 := hide (Tl.start H0.out (K2.out.trans K7.out) (T.out.bx.kept K7.out (fun h => h)) HC.out HV.out.hc HS.out HV.out.hx); have fS := T7.out.O.frozen (k * 4 + 3); have p3 := T7.out.slotCell.2.2.2; clear o7 k7)
  trace "END"
  have hbn : bs.length = n := by have := HR2.out.1; simpa using this
  have T8 := hide (T7.out.slot 3 (by omega) { x with D := A7, dc := c7, data := bs } (.slice A7 n c7) (by simp [slotC, hbn]))
  go_ret
  refine ⟨rfl, ⟨A7, c7, ?_⟩, T8.out.K⟩
  refine T8.out.close (by simp) ?_
  have hne : ¬ inB A7 S := fun hb => by
    obtain ⟨cs, h1⟩ := O7.out.blk hb
    obtain ⟨cs2, h2⟩ := T7.out.blkS
    exact absurd (blk_type h1 h2) (by decide)
  have := O7.out.kept (keepsOne w7 S (k * 4 + 3) (.slice A7 n c7)) (fun b hb e => hne (e ▸ hb))
  dsimp only
  rw [hbn]
  exact this
end Go.Proofs.Ytidobhflijdccaa
