/-
  Numbers as bytes, plainly: what is written, what is read, and that the two undo each other. No program in sight.
-/
set_option linter.unusedVariables false
set_option linter.unusedSimpArgs false
namespace Go.Proofs.Ytaiopdipldaimaa.Vp

/-- the number whose groups of seven bits are these, the lowest first -/
def val (l : List UInt8) : Nat := l.foldr (fun c n => n * 128 + c.toNat % 128) 0
/-- how many of the first f bytes, from the head on, have the bit 128 -/
def scan : List UInt8 → Nat → Nat
  | [], _ => 0
  | _ :: _, 0 => 0
  | c :: l, f + 1 => if 128 ≤ c.toNat then scan l f + 1 else 0
def bad (l : List UInt8) (k : Nat) : Prop := (k = 9 ∧ 1 < (l.getD k 0).toNat) ∨ (0 < k ∧ (l.getD k 0).toNat = 0)
instance (l : List UInt8) (k : Nat) : Decidable (bad l k) := by unfold bad; exact inferInstance
def parse (l : List UInt8) : Nat × Nat × Nat :=
  if scan l 10 = 10 then (0, 0, 3) else if scan l 10 = l.length then (0, 0, 2) else if bad l (scan l 10) then (0, 0, 3) else (val (l.take (scan l 10 + 1)), scan l 10 + 1, 0)
def encF : Nat → Nat → List UInt8
  | 0, n => [n.toUInt8]
  | f + 1, n => if n < 128 then [n.toUInt8] else (n % 128 + 128).toUInt8 :: encF f (n / 128)
def enc (n : Nat) : List UInt8 := encF 9 n

theorem u8_toNat (n : Nat) (h : n < 256) : n.toUInt8.toNat = n := by
  show n % 256 = n
  omega
theorem val_cons (c : UInt8) (l : List UInt8) : val (c :: l) = val l * 128 + c.toNat % 128 := rfl
theorem val_lt (l : List UInt8) : val l < 128 ^ l.length := by
  induction l with
  | nil => simp [val]
  | cons c l ih => rw [val_cons, List.length_cons, Nat.pow_succ]; omega
theorem val_snoc (l : List UInt8) (c : UInt8) : val (l ++ [c]) = val l + 128 ^ l.length * (c.toNat % 128) := by
  induction l with
  | nil => simp [val]
  | cons a l ih =>
    rw [List.cons_append, val_cons, ih, val_cons, List.length_cons, Nat.pow_succ, Nat.add_mul]
    rw [show 128 ^ l.length * (c.toNat % 128) * 128 = 128 ^ l.length * 128 * (c.toNat % 128) from by rw [Nat.mul_assoc, Nat.mul_comm _ 128, ← Nat.mul_assoc]]
    omega
theorem encF_ne (f n : Nat) : 1 ≤ (encF f n).length := by
  cases f with
  | zero => simp [encF]
  | succ f => unfold encF; split <;> simp
theorem encF_le (f n : Nat) : (encF f n).length ≤ f + 1 := by
  induction f generalizing n with
  | zero => simp [encF]
  | succ f ih => unfold encF; split <;> simp; exact ih _
theorem enc_len (n : Nat) : 1 ≤ (enc n).length ∧ (enc n).length ≤ 10 := ⟨encF_ne 9 n, encF_le 9 n⟩
theorem val_enc (f n : Nat) (h : n < 128 ^ (f + 1)) : val (encF f n) = n := by
  induction f generalizing n with
  | zero => simp only [encF, val, List.foldr]; rw [u8_toNat n (by omega)]; omega
  | succ f ih =>
    unfold encF
    split
    · simp only [val, List.foldr]; rw [u8_toNat n (by omega)]; omega
    · rw [val_cons, ih _ (by rw [Nat.pow_succ] at h; omega), u8_toNat _ (by omega)]; omega
theorem scan_enc (f n g : Nat) (a : List UInt8) (h : n < 128 ^ (f + 1)) (hg : f < g) : scan (encF f n ++ a) g = (encF f n).length - 1 := by
  induction f generalizing n g with
  | zero =>
    obtain ⟨g, rfl⟩ : ∃ k, g = k + 1 := ⟨g - 1, by omega⟩
    simp only [encF, List.cons_append, List.nil_append, scan, List.length_cons, List.length_nil]
    rw [u8_toNat n (by omega), if_neg (by omega)]
  | succ f ih =>
    obtain ⟨g, rfl⟩ : ∃ k, g = k + 1 := ⟨g - 1, by omega⟩
    unfold encF
    split
    · simp only [List.cons_append, List.nil_append, scan, List.length_cons, List.length_nil]
      rw [u8_toNat n (by omega), if_neg (by omega)]
    · simp only [List.cons_append, scan, List.length_cons]
      rw [u8_toNat _ (by omega), if_pos (by omega), ih _ _ (by rw [Nat.pow_succ] at h; omega) (by omega)]
      have := encF_ne f (n / 128)
      omega
theorem last_enc (f n : Nat) (h : n < 128 ^ (f + 1)) : ((encF f n).getD ((encF f n).length - 1) 0).toNat = n / 128 ^ ((encF f n).length - 1) ∧ (1 < (encF f n).length → 1 ≤ n / 128 ^ ((encF f n).length - 1)) := by
  induction f generalizing n with
  | zero => simp only [encF]; simp; omega
  | succ f ih =>
    unfold encF
    split
    · simp; omega
    · have h1 := encF_ne f (n / 128)
      have h2 := ih (n / 128) (by rw [Nat.pow_succ] at h; omega)
      obtain ⟨k, hk⟩ : ∃ k, (encF f (n / 128)).length = k + 1 := ⟨(encF f (n / 128)).length - 1, by omega⟩
      simp only [List.length_cons, hk, Nat.add_sub_cancel, List.getD_cons_succ] at h2 ⊢
      rw [Nat.pow_succ, Nat.mul_comm, ← Nat.div_div_eq_div_mul]
      refine ⟨h2.1, fun _ => ?_⟩
      rcases Nat.eq_zero_or_pos k with rfl | hk'
      · simp; omega
      · exact h2.2 (by omega)
theorem parse_enc (n : Nat) (h : n < 18446744073709551616) (a : List UInt8) : parse (enc n ++ a) = (n, (enc n).length, 0) := by
  have hl := enc_len n
  have hb : n < 128 ^ (9 + 1) := by omega
  have hs := scan_enc 9 n 10 a hb (by omega)
  have hla := last_enc 9 n hb
  have hv := val_enc 9 n hb
  change scan (enc n ++ a) 10 = (enc n).length - 1 at hs
  change ((enc n).getD ((enc n).length - 1) 0).toNat = n / 128 ^ ((enc n).length - 1) ∧ (1 < (enc n).length → 1 ≤ n / 128 ^ ((enc n).length - 1)) at hla
  change val (enc n) = n at hv
  have hget : ((enc n ++ a).getD ((enc n).length - 1) 0) = (enc n).getD ((enc n).length - 1) 0 := by
    rw [List.getD, List.getD, List.getElem?_append_left (by omega)]
  have hnb : ¬ bad (enc n ++ a) ((enc n).length - 1) := by
    unfold bad
    rw [hget, hla.1]
    rintro (⟨h1, h2⟩ | ⟨h1, h2⟩)
    · rw [h1] at h2; omega
    · have := hla.2 (by omega); omega
  unfold parse
  rw [hs, if_neg (by omega), if_neg (by simp; omega), if_neg hnb, show (enc n).length - 1 + 1 = (enc n).length by omega, List.take_left, hv]
theorem scan_le (l : List UInt8) (f : Nat) : scan l f ≤ f ∧ scan l f ≤ l.length := by
  induction l generalizing f with
  | nil => simp [scan]
  | cons c l ih =>
    cases f with
    | zero => simp [scan]
    | succ f => unfold scan; have := ih f; split <;> simp <;> omega
theorem scan_yes (l : List UInt8) (f j : Nat) (h : j < scan l f) : 128 ≤ (l.getD j 0).toNat := by
  induction l generalizing f j with
  | nil => simp [scan] at h
  | cons c l ih =>
    cases f with
    | zero => simp [scan] at h
    | succ f =>
      unfold scan at h
      split at h
      · cases j with
        | zero => simpa
        | succ j => simpa using ih f j (by omega)
      · omega
theorem scan_no (l : List UInt8) (f : Nat) (h : scan l f < f) (h2 : scan l f < l.length) : (l.getD (scan l f) 0).toNat < 128 := by
  induction l generalizing f with
  | nil => simp at h2
  | cons c l ih =>
    cases f with
    | zero => omega
    | succ f =>
      unfold scan at h h2 ⊢
      split
      · rename_i hc
        rw [if_pos hc] at h h2
        simpa using ih f (by omega) (by simpa using h2)
      · simpa using by omega
/-- what is known of the place at which the scan stops -/
theorem scan_at (l : List UInt8) (k f : Nat) (hk : k ≤ f) (hy : ∀ j, j < k → 128 ≤ (l.getD j 0).toNat) (hn : k < f → k < l.length → (l.getD k 0).toNat < 128) (hl : k ≤ l.length) : scan l f = k := by
  rcases Nat.lt_trichotomy (scan l f) k with h | h | h
  · have h1 := scan_no l f (by omega) (by omega)
    have h2 := hy _ h
    omega
  · exact h
  · have h1 := scan_yes l f k h
    have h2 := scan_le l f
    have h3 := hn (by omega) (by omega)
    omega
theorem enc_val (f : Nat) (l : List UInt8) (k : Nat) (hk : k ≤ f) (hl : k < l.length) (hy : ∀ j, j < k → 128 ≤ (l.getD j 0).toNat) (hn : (l.getD k 0).toNat < 128) (hz : k = 0 ∨ (l.getD k 0).toNat ≠ 0) :
    encF f (val (l.take (k + 1))) = l.take (k + 1) := by
  induction l generalizing f k with
  | nil => simp at hl
  | cons c l ih =>
    cases k with
    | zero =>
      simp only [List.getD_cons_zero] at hn
      have e : val (List.take (0 + 1) (c :: l)) = c.toNat := by simp [val]; omega
      rw [e]
      cases f with
      | zero => simp [encF]
      | succ f => unfold encF; rw [if_pos hn]; simp
    | succ k =>
      obtain ⟨f, rfl⟩ : ∃ g, f = g + 1 := ⟨f - 1, by omega⟩
      have hc : 128 ≤ c.toNat := by simpa using hy 0 (by omega)
      have hc' := c.toNat_lt
      simp only [List.getD_cons_succ] at hn hz
      have ih' := ih f k (by omega) (by simpa using hl) (fun j hj => by simpa using hy (j + 1) (by omega)) hn (by omega)
      rw [List.take_succ_cons, val_cons]
      have hpos : 1 ≤ val (l.take (k + 1)) := by
        have hk' : k < l.length := by simpa using hl
        rw [List.take_succ_eq_append_getElem hk', val_snoc]
        have : l[k] = l.getD k 0 := by simp [List.getD, hk']
        rw [this]
        have h1 : 1 ≤ (l.getD k 0).toNat % 128 := by omega
        have h2 : 1 ≤ 128 ^ (l.take k).length := Nat.pow_pos (by omega)
        have := Nat.mul_le_mul h2 h1
        omega
      unfold encF
      rw [if_neg (by omega), show (val (l.take (k + 1)) * 128 + c.toNat % 128) / 128 = val (l.take (k + 1)) by omega, ih']
      congr 1
      rw [show (val (l.take (k + 1)) * 128 + c.toNat % 128) % 128 + 128 = c.toNat by omega]
      simp
/-- what a reading that succeeds says -/
theorem parse_ok (l : List UInt8) (h : (parse l).2.2 = 0) : 1 ≤ (parse l).2.1 ∧ (parse l).2.1 ≤ l.length ∧ enc (parse l).1 = l.take (parse l).2.1 ∧ (parse l).1 < 18446744073709551616 := by
  unfold parse at h ⊢
  split at h
  · simp at h
  split at h
  · simp at h
  split at h
  · simp at h
  rename_i h1 h2 h3
  rw [if_neg h1, if_neg h2, if_neg h3]
  have hs := scan_le l 10
  have hn := scan_no l 10 (by omega) (by omega)
  have hy := fun j => scan_yes l 10 j
  refine ⟨by simp, by simp; omega, ?_, ?_⟩
  · refine enc_val 9 l _ (by omega) (by omega) hy hn ?_
    unfold bad at h3
    rcases Nat.eq_zero_or_pos (scan l 10) with h0 | h0
    · exact .inl h0
    · exact .inr fun hz => h3 (.inr ⟨h0, hz⟩)
  · show val (l.take (scan l 10 + 1)) < _
    generalize hk : scan l 10 = k at *
    rw [List.take_succ_eq_append_getElem (by omega), val_snoc]
    have e : l[k] = l.getD k 0 := by simp [List.getD, show k < l.length by omega]
    rw [e]
    have hv := val_lt (l.take k)
    rw [List.length_take, Nat.min_eq_left (by omega)] at hv ⊢
    unfold bad at h3
    have hk9 : k ≤ 9 := by omega
    rcases Nat.lt_or_ge k 9 with hlt | hge
    · have h5 : 128 ^ k ≤ 128 ^ 8 := Nat.pow_le_pow_right (by omega) (by omega)
      have h6 : 128 ^ k * ((l.getD k 0).toNat % 128) ≤ 128 ^ 8 * 127 := Nat.mul_le_mul h5 (by omega)
      omega
    · have : k = 9 := by omega
      subst this
      have : (l.getD 9 0).toNat ≤ 1 := by
        rcases Nat.lt_or_ge 1 (l.getD 9 0).toNat with h | h
        · exact absurd (.inl ⟨rfl, h⟩) h3
        · exact h
      have : 128 ^ 9 * ((l.getD 9 0).toNat % 128) ≤ 128 ^ 9 * 1 := Nat.mul_le_mul (Nat.le_refl _) (by omega)
      omega
theorem parse_err (l : List UInt8) (h : (parse l).2.2 ≠ 0) : (parse l).1 = 0 ∧ (parse l).2.1 = 0 := by
  unfold parse at h ⊢
  split
  · exact ⟨rfl, rfl⟩
  split
  · exact ⟨rfl, rfl⟩
  split
  · exact ⟨rfl, rfl⟩
  · rename_i h1 h2 h3
    rw [if_neg h1, if_neg h2, if_neg h3] at h
    simp at h
theorem parse_e (l : List UInt8) : (parse l).2.2 = 0 ∨ (parse l).2.2 = 2 ∨ (parse l).2.2 = 3 := by
  unfold parse
  split
  · simp
  split
  · simp
  split <;> simp
end Go.Proofs.Ytaiopdipldaimaa.Vp
