/-
  The deck's weights and tags: short texts in slices of the call's own.
-/
import Derived.Test.YtmbmlkllhcgkgaaShort
import Derived.Test.YtmbmlkllhcgkgaaMem3
set_option linter.unusedVariables false
set_option linter.unusedSimpArgs false
namespace Go.Proofs.Ytmbmlkllhcgkgaa
open Go.RowKit

/-- some number from lo to hi - 1; only the deck's block has changed -/
def Got (lo hi : Int) (w : World) (B g : Nat) (e : Ending) (w' : World) : Prop :=
  ∃ x : Int, e = .returned (.int .u64 x) ∧ lo ≤ x ∧ x < hi ∧ IsDeck w' B g ∧ Keeps (· = g) w w'

theorem small_any (B g : Nat) (w : World) (h : IsDeck w B g) : Calls Try.prog 30 #[.pointer (some ⟨g, 0, none⟩)] w (Got 1 21 w B g) := by
  go_enter Try.func30, Try.ntmps30
  go_wp2_with fail
  refine (next_any 20 (by omega) (by omega) B g _ h).mono ?_
  rintro e w1 ⟨x, rfl, x0, x1, h1, k1⟩
  have K1 := hide k1
  clear k1
  go_wp2_with fail
  go_ret
  exact ⟨_, rfl, by omega, by omega, h1, K1.out⟩

theorem u64_range (z : Int) : 0 ≤ IntKind.u64.wrap z ∧ IntKind.u64.wrap z < 18446744073709551616 := by rw [IntKind.wrap_u64]; omega
set_option maxRecDepth 100000 in
theorem weight_any (B g : Nat) (w : World) (h : IsDeck w B g) : Calls Try.prog 31 #[.pointer (some ⟨g, 0, none⟩)] w (Got 0 18446744073709551616 w B g) := by
  go_enter Try.func31, Try.ntmps31
  go_wp2_with fail
  refine (next_any 12 (by omega) (by omega) B g _ h).mono ?_
  rintro e w1 ⟨x, rfl, x0, x1, h1, k1⟩
  have K1 := hide k1
  clear k1
  go_wp2_with fail
  · refine (next_any 1099511627776 (by omega) (by omega) B g _ h1).mono ?_
    rintro e w2 ⟨y, rfl, y0, y1, h2, k2⟩
    have K2 := hide k2
    clear k2
    go_wp2_with fail
    go_ret
    exact ⟨_, rfl, by omega, by omega, h2, K1.out.trans K2.out⟩
  · refine (next_any 1099511627776 (by omega) (by omega) B g _ h1).mono ?_
    rintro e w2 ⟨y, rfl, y0, y1, h2, k2⟩
    have K2 := hide k2
    clear k2
    go_wp2_with fail
    go_ret
    exact ⟨_, rfl, by omega, by omega, h2, K1.out.trans K2.out⟩
  · refine (next_any 7 (by omega) (by omega) B g _ h1).mono ?_
    rintro e w2 ⟨y, rfl, y0, y1, h2, k2⟩
    have K2 := hide k2
    clear k2
    go_wp2_with fail
    refine (next_any 61 (by omega) (by omega) B g _ h2).mono ?_
    rintro e w3 ⟨z, rfl, z0, z1, h3, k3⟩
    have K3 := hide k3
    clear k3
    go_wp2_with fail
    go_ret
    exact ⟨_, rfl, by first | exact (u64_range _).1 | omega, by first | exact (u64_range _).2 | omega, h3, (K1.out.trans K2.out).trans K3.out⟩
  · refine (next_any 20 (by omega) (by omega) B g _ h1).mono ?_
    rintro e w2 ⟨y, rfl, y0, y1, h2, k2⟩
    have K2 := hide k2
    clear k2
    go_wp2_with fail
    go_ret
    exact ⟨_, rfl, by omega, by omega, h2, K1.out.trans K2.out⟩

/-- cells that are texts of at most N bytes -/
def Texts (N : Nat) (xs : List Value) : Prop := ∀ u ∈ xs, ∃ s : ByteArray, u = .string s ∧ s.size ≤ N
theorem Texts.one {N : Nat} {xs : List Value} (h : Texts N xs) : ∀ u ∈ xs, u.oneCell' = true := by
  intro u hu; obtain ⟨s, rfl, _⟩ := h u hu; rfl
theorem Texts.more {N M : Nat} {xs : List Value} (h : Texts N xs) (hM : N ≤ M) : Texts M xs := fun u hu => by
  obtain ⟨s, e, hs⟩ := h u hu; exact ⟨s, e, by omega⟩
theorem Texts.two {N : Nat} {s t : ByteArray} (hs : s.size ≤ N) (ht : t.size ≤ N) : Texts N [.string s, .string t] := by
  intro u hu
  rcases List.mem_cons.1 hu with rfl | hu
  · exact ⟨s, rfl, hs⟩
  rcases List.mem_cons.1 hu with rfl | hu
  · exact ⟨t, rfl, ht⟩
  · cases hu
theorem Texts.append {N : Nat} {xs ys : List Value} (h : Texts N xs) (k : Texts N ys) : Texts N (xs ++ ys) := fun u hu => by
  rcases List.mem_append.1 hu with hu | hu
  · exact h u hu
  · exact k u hu
theorem Texts.set {N : Nat} {xs : List Value} (h : Texts N xs) (i : Nat) {s : ByteArray} (hs : s.size ≤ N) : Texts N (xs.set i (.string s)) := fun u hu => by
  rcases List.mem_or_eq_of_mem_set hu with hu | rfl
  · exact h u hu
  · exact ⟨s, rfl, hs⟩
theorem Texts.at_ {N : Nat} {xs : List Value} (h : Texts N xs) (i : Nat) (hi : i < xs.length) : ∃ s : ByteArray, xs[i]? = some (.string s) ∧ s.size ≤ N := by
  obtain ⟨s, e, hs⟩ := h _ (List.getElem_mem hi)
  exact ⟨s, by rw [List.getElem?_eq_getElem hi, e], hs⟩

theorem elemTag : ElemOf Try.prog 60 68 2 32 := ElemOf.mk' (z := .agg #[.string ByteArray.empty, .string ByteArray.empty]) Try.underlying60 (by kernel_rfl) rfl (by omega)

/-- What Tags gives: one or two tags in a block of its own. -/
def TagsOf (w : World) (B g : Nat) (e : Ending) (w' : World) : Prop :=
  ∃ (b n c : Nat) (xs : List Value), e = .returned (.slice (some ⟨b, 0, none⟩) n c) ∧ 1 ≤ n ∧ n ≤ 2 ∧ Own w' w.heap.size 68 2 (some ⟨b, 0, none⟩) n c xs ∧ Texts 20 xs ∧ IsDeck w' B g ∧ Keeps (· = g) w w'

theorem IsDeck.quiet {w w' : World} {B g : Nat} (h : IsDeck w B g) (k : Keeps (fun _ => False) w w') : IsDeck w' B g := h.kept k (fun h => h) (fun _ _ h => h)
set_option maxRecDepth 100000 in
set_option maxHeartbeats 400000 in
theorem tags_any (B g : Nat) (w : World) (h : IsDeck w B g) : Calls Try.prog 29 #[.pointer (some ⟨g, 0, none⟩)] w (TagsOf w B g) := by
  have hgl := h.lt
  have hgB := h.le
  go_enter Try.func29, Try.ntmps29
  go_wp2_with fail
  refine (next_any 9 (by omega) (by omega) B g _ h).mono ?_
  rintro e w1 ⟨x, rfl, x0, x1, h1, k1⟩
  have K1 := hide k1
  have hs1 := k1.size
  obtain ⟨t, ht, hcv⟩ := run_conv1' (97 + x) (by omega) (by omega) w1
  clear k1
  go_wp2_with fail
  have o2 := Own.new_at (w1.alloc (.cells #[.int .u8 (97 + x)] 5)) w.heap.size 68 #[.string ⟨#[107]⟩, .string t] 1 2 (w1.heap.size + 1) (by simp) (by omega) (by simp [maxLen]) rfl
  have kA := ((Keeps.refl (· = g) w1).alloc (.cells #[.int .u8 (97 + x)] 5)).alloc (.cells #[.string ⟨#[107]⟩, .string t] 68)
  have hd2 := h1.quiet (((Keeps.refl (fun _ => False) w1).alloc (.cells #[.int .u8 (97 + x)] 5)).alloc (.cells #[.string ⟨#[107]⟩, .string t] 68))
  refine (next_any 8 (by omega) (by omega) B g _ hd2).mono ?_
  rintro e w2 ⟨y, rfl, y0, y1, h2, k2⟩
  have O2 := hide (o2.kept k2 (fun b hb e => by have := o2.inB hb; omega))
  have K2 := hide ((K1.out.trans kA).trans k2)
  have X2 := hide (Texts.two (N := 20) (s := ⟨#[107]⟩) (t := t) (by decide) (by omega))
  have hs2 := K2.out.size
  clear o2 kA hd2 k2 hcv K1 h1
  go_wp2_with (at_builtin; refine wpList_app _ elemTag rfl (.tmp 18) (.tmp 20) rfl w.heap.size _ rfl (O2.out.kept ((Keeps.refl (fun _ => False) w2).alloc _) (fun _ _ h => h)) _ (m := 1) [.string ⟨#[97, 46, 98]⟩, .string ⟨#[]⟩] rfl (by exact Blk.rd (xs := [.string ⟨#[97, 46, 98]⟩, .string ⟨#[]⟩]) (Blk.new_at _ _ _ _ (by simp)) rfl) (Texts.one (N := 20) (Texts.two (by decide) (by decide))) (by simp [maxLen]) (by omega) (by simp; omega) ?_; intro A5 c5 w5 o5 k5 hA5; have O5 := hide o5; have K5 := hide ((K2.out.alloc (.cells #[.string ⟨#[97, 46, 98]⟩, .string ⟨#[]⟩] 68)).step k5 (fun b hb h => by have := O2.out.inB h; omega)); have D5 := (h2.quiet ((Keeps.refl (fun _ => False) w2).alloc (.cells #[.string ⟨#[97, 46, 98]⟩, .string ⟨#[]⟩] 68))).kept k5 (fun h => by have := O2.out.inB h; omega) (fun b hb h => by have := O2.out.inB h; omega); clear o5 k5 hA5)
  · obtain ⟨b, rfl, _, _⟩ := O5.out.some_ (by omega)
    go_ret
    exact ⟨b, 2, c5, _, rfl, by omega, by omega, O5.out, X2.out.append (Texts.two (by decide) (by decide)), D5, K5.out⟩
  · refine (next_any 3 (by omega) (by omega) B g _ h2).mono ?_
    rintro e w3 ⟨z, rfl, z0, z1, h3, k3⟩
    have O3 := hide (O2.out.kept k3 (fun b hb e => by have := O2.out.inB hb; omega))
    have K3 := hide (K2.out.trans k3)
    have hs3 := K3.out.size
    obtain ⟨t3, ht3, hcv⟩ := run_conv1' (48 + z) (by omega) (by omega) w3
    have X3 : Texts 20 [.string (⟨#[104, 111, 115, 116, 45]⟩ ++ t3), .string ⟨#[48, 49, 50, 51, 52, 53, 54, 55, 56, 57]⟩] := Texts.two (by rw [ByteArray.size_append, ht3]; decide) (by decide)
    have X3 := hide X3
    clear k3 O2 K2 h2
    go_wp2_with (at_builtin; go_loud (refine wpList_app _ elemTag rfl (.tmp 24) (.tmp 33) rfl w.heap.size _ rfl (O3.out.kept (((Keeps.refl (fun _ => False) w3).alloc _).alloc _) (fun _ _ h => h)) _ (m := 1) _ rfl (Blk.rd (Blk.new_at _ _ _ _ (by first | rfl | simp)) (by rfl)) X3.out.one (by simp only [maxLen]; omega) (by omega) (by first | omega | (simp; omega)) ?_); intro A5 c5 w5 o5 k5 hA5; have O5 := hide o5; have K5 := hide (((K3.out.alloc (.cells #[.int .u8 (48 + z)] 5)).alloc (.cells #[.string (⟨#[104, 111, 115, 116, 45]⟩ ++ t3), .string ⟨#[48, 49, 50, 51, 52, 53, 54, 55, 56, 57]⟩] 68)).step k5 (fun b hb h => by have := O3.out.inB h; omega)); have D5 := (h3.quiet (((Keeps.refl (fun _ => False) w3).alloc (.cells #[.int .u8 (48 + z)] 5)).alloc (.cells #[.string (⟨#[104, 111, 115, 116, 45]⟩ ++ t3), .string ⟨#[48, 49, 50, 51, 52, 53, 54, 55, 56, 57]⟩] 68))).kept k5 (fun h => by have := O3.out.inB h; omega) (fun b hb h => by have := O3.out.inB h; omega); clear o5 k5 hA5)
    obtain ⟨b, rfl, _, _⟩ := O5.out.some_ (by omega)
    go_ret
    exact ⟨b, 2, c5, _, rfl, by omega, by omega, O5.out, X2.out.append X3.out, D5, K5.out⟩
  · go_ret
    exact ⟨_, 1, 1, _, rfl, by omega, by omega, O2.out, X2.out, h2, K2.out⟩
end Go.Proofs.Ytmbmlkllhcgkgaa
