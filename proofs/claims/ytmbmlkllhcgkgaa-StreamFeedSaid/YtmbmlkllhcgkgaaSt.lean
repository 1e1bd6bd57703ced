/-
  Streams of frames, plainly: what a byte does to the state, and what follows for many bytes. No program in sight.
-/
import Derived.Test.YtmbmlkllhcgkgaaVp
set_option linter.unusedVariables false
set_option linter.unusedSimpArgs false
namespace Go.Proofs.Ytmbmlkllhcgkgaa.Stp
open Vp

structure St where
  buf : List UInt8
  skip : Int
  broken : Bool
structure Ch where
  body : List UInt8
  v : Int
def init : St := ⟨[], 0, false⟩
def feed1 (s : St) (c : UInt8) : St × List Ch :=
  if s.broken = true then (s, [])
  else if 0 < s.skip then (⟨s.buf, s.skip - 1, s.broken⟩, [])
  else if (parse (s.buf ++ [c])).2.2 = 3 then (⟨[], 0, true⟩, [⟨[], 1⟩])
  else if (parse (s.buf ++ [c])).2.2 ≠ 0 then (⟨s.buf ++ [c], s.skip, s.broken⟩, [])
  else if 4096 < (parse (s.buf ++ [c])).1 then (⟨[], ((parse (s.buf ++ [c])).1 : Nat), false⟩, [⟨[], 2⟩])
  else if (s.buf ++ [c]).length - (parse (s.buf ++ [c])).2.1 < (parse (s.buf ++ [c])).1 then (⟨s.buf ++ [c], s.skip, s.broken⟩, [])
  else (⟨[], 0, false⟩, [⟨(s.buf ++ [c]).drop (parse (s.buf ++ [c])).2.1, 0⟩])
def feedL (s : St) : List UInt8 → St × List Ch
  | [] => (s, [])
  | c :: l => ((feedL (feed1 s c).1 l).1, (feed1 s c).2 ++ (feedL (feed1 s c).1 l).2)

theorem feedL_append (s : St) (a b : List UInt8) : feedL s (a ++ b) = ((feedL (feedL s a).1 b).1, (feedL s a).2 ++ (feedL (feedL s a).1 b).2) := by
  induction a generalizing s with
  | nil => simp [feedL]
  | cons c a ih => simp [feedL, ih]
theorem feedL_snoc (s : St) (a : List UInt8) (c : UInt8) : feedL s (a ++ [c]) = ((feed1 (feedL s a).1 c).1, (feedL s a).2 ++ (feed1 (feedL s a).1 c).2) := by
  rw [feedL_append]; simp [feedL]

/-- the buffer is the beginning of a frame that is not complete -/
def Inc (b : List UInt8) : Prop := (parse b).2.2 = 2 ∨ ((parse b).2.2 = 0 ∧ (parse b).1 ≤ 4096 ∧ b.length - (parse b).2.1 < (parse b).1)
def Good (s : St) : Prop := 0 ≤ s.skip ∧ s.skip < 18446744073709551616 ∧ (s.broken = false → Inc s.buf)
theorem parse_nil : parse [] = (0, 0, 2) := rfl
theorem inc_nil : Inc [] := .inl rfl
theorem good_init : Good init := ⟨by decide, by decide, fun _ => inc_nil⟩

/-- a number that is there stays there -/
theorem parse_more (l a : List UInt8) (h : (parse l).2.2 = 0) : parse (l ++ a) = parse l := by
  obtain ⟨h1, h2, h3, h4⟩ := parse_ok l h
  have e : l = enc (parse l).1 ++ l.drop (parse l).2.1 := by rw [h3, List.take_append_drop]
  have hlen : (enc (parse l).1).length = (parse l).2.1 := by rw [h3, List.length_take]; omega
  have h5 := parse_enc (parse l).1 h4 (l.drop (parse l).2.1 ++ a)
  rw [← List.append_assoc, ← e] at h5
  rw [h5, hlen]
  exact Prod.ext rfl (Prod.ext rfl h.symm)
theorem parse_short (l : List UInt8) (c : UInt8) (h : (parse l).2.2 = 2) (h0 : (parse (l ++ [c])).2.2 = 0) : (parse (l ++ [c])).2.1 = l.length + 1 := by
  obtain ⟨h1, h2, h3, h4⟩ := parse_ok _ h0
  rcases Nat.lt_or_ge l.length (parse (l ++ [c])).2.1 with hlt | hge
  · simp at h2; omega
  · exfalso
    rw [List.take_append_of_le_length hge] at h3
    have e : l = enc (parse (l ++ [c])).1 ++ l.drop (parse (l ++ [c])).2.1 := by rw [h3, List.take_append_drop]
    have h5 := parse_enc (parse (l ++ [c])).1 h4 (l.drop (parse (l ++ [c])).2.1)
    rw [← e] at h5
    rw [h5] at h
    cases h
/-- at the byte that completes a frame, the buffer holds just the frame -/
theorem whole (b : List UInt8) (c : UInt8) (hb : Inc b) (h0 : (parse (b ++ [c])).2.2 = 0) (hn : ¬ (b ++ [c]).length - (parse (b ++ [c])).2.1 < (parse (b ++ [c])).1) :
    (b ++ [c]).length - (parse (b ++ [c])).2.1 = (parse (b ++ [c])).1 := by
  have hl : (b ++ [c]).length = b.length + 1 := by simp
  rcases hb with h | ⟨h1, h2, h3⟩
  · have := parse_short b c h h0
    omega
  · have h4 := parse_more b [c] h1
    rw [h4] at hn ⊢
    omega
theorem inc_lt (b : List UInt8) (h : Inc b) : b.length ≤ 4097 := by
  rcases h with h | ⟨h1, h2, h3⟩
  · unfold parse at h
    split at h
    · simp at h
    split at h
    · rename_i h1 h2
      have := scan_le b 10
      omega
    split at h <;> simp at h
  · obtain ⟨g1, g2, g3, g4⟩ := parse_ok b h1
    have h4 : (enc (parse b).1).length ≤ 2 := by
      generalize (parse b).1 = n at *
      unfold enc encF
      split
      · simp
      · unfold encF
        rw [if_pos (by omega)]; simp
    rw [g3, List.length_take] at h4
    omega
theorem good_feed1 (s : St) (c : UInt8) (h : Good s) : Good (feed1 s c).1 := by
  unfold feed1
  obtain ⟨h0, h1, h2⟩ := h
  have he := parse_e (s.buf ++ [c])
  have hp := parse_ok (s.buf ++ [c])
  split
  · exact ⟨h0, h1, h2⟩
  split
  · exact ⟨by simp; omega, by simp; omega, h2⟩
  split
  · exact ⟨by simp, by simp, fun hh => by simp at hh⟩
  split
  · exact ⟨h0, h1, fun _ => .inl (by simp; omega)⟩
  split
  · exact ⟨by simp, by have := (hp (by omega)).2.2.2; simp; omega, fun _ => inc_nil⟩
  split
  · rename_i hlast
    exact ⟨h0, h1, fun _ => .inr ⟨by simp; omega, by simp; omega, hlast⟩⟩
  · exact good_init
theorem good_feedL (s : St) (l : List UInt8) (h : Good s) : Good (feedL s l).1 := by
  induction l generalizing s with
  | nil => exact h
  | cons c l ih => exact ih _ (good_feed1 s c h)
theorem broken_feedL (b : List UInt8) (k : Int) (l : List UInt8) : feedL ⟨b, k, true⟩ l = (⟨b, k, true⟩, []) := by
  induction l with
  | nil => rfl
  | cons c l ih =>
    have e : feed1 ⟨b, k, true⟩ c = (⟨b, k, true⟩, []) := by simp [feed1]
    simp [feedL, e, ih]

/-- of a number's bytes without the last ones nothing is read -/
theorem parse_part (n : Nat) (hn : n < 18446744073709551616) (k : Nat) (hk : k < (enc n).length) : (parse ((enc n).take k)).2.2 = 2 := by
  have hl := enc_len n
  have hs := scan_enc 9 n 10 [] (by omega) (by omega)
  rw [List.append_nil] at hs
  change scan (enc n) 10 = (enc n).length - 1 at hs
  have hlen : ((enc n).take k).length = k := by rw [List.length_take]; omega
  have h1 : scan ((enc n).take k) 10 = k := by
    refine scan_at _ k 10 (by omega) (fun j hj => ?_) (fun _ h => by omega) (by omega)
    have := scan_yes (enc n) 10 j (by omega)
    simpa [List.getD, List.getElem?_take, hj] using this
  unfold parse
  rw [h1, if_neg (by omega), if_pos hlen.symm]
/-- the bytes of one frame -/
def frame (body : List UInt8) : List UInt8 := enc body.length ++ body
theorem part_frame (body : List UInt8) (hb : body.length ≤ 4096) (k : Nat) (hk : k < (frame body).length) : Inc ((frame body).take k) := by
  have hl := enc_len body.length
  unfold frame at hk ⊢
  rcases Nat.lt_or_ge k (enc body.length).length with h | h
  · rw [List.take_append_of_le_length (by omega)]
    exact .inl (parse_part _ (by omega) k h)
  · rw [List.take_append, List.take_of_length_le h]
    have := parse_enc body.length (by omega) (body.take (k - (enc body.length).length))
    right
    rw [this]
    simp at hk ⊢
    omega
theorem feed_part (body : List UInt8) (hb : body.length ≤ 4096) (k : Nat) (hk : k < (frame body).length) : feedL init ((frame body).take k) = (⟨(frame body).take k, 0, false⟩, []) := by
  induction k with
  | zero => rfl
  | succ k ih =>
    have ih' := ih (by omega)
    rw [List.take_succ_eq_append_getElem (by omega), feedL_snoc, ih']
    have hinc := part_frame body hb (k + 1) hk
    rw [List.take_succ_eq_append_getElem (by omega)] at hinc
    generalize hc : (frame body)[k] = c at *
    have e : feed1 ⟨(frame body).take k, 0, false⟩ c = (⟨(frame body).take k ++ [c], 0, false⟩, []) := by
      unfold feed1
      rw [if_neg (by simp), if_neg (by simp)]
      rcases hinc with h | ⟨h1, h2, h3⟩
      · simp only [h]; simp
      · simp only [h1]
        rw [if_neg (by omega), if_neg (by omega), if_neg (by simp; omega), if_pos h3]
    rw [e]; simp
theorem feed_frame (body : List UInt8) (hb : body.length ≤ 4096) : feedL init (frame body) = (init, [⟨body, 0⟩]) := by
  have hl := enc_len body.length
  have hlen : (frame body).length = (enc body.length).length + body.length := by simp [frame]
  have e : frame body = (frame body).take ((frame body).length - 1) ++ [(frame body)[(frame body).length - 1]'(by omega)] := by
    rw [← List.take_succ_eq_append_getElem, Nat.sub_add_cancel (by omega), List.take_of_length_le (Nat.le_refl _)]
  have h1 := feed_part body hb ((frame body).length - 1) (by omega)
  rw [e, feedL_snoc, h1]
  generalize hc : (frame body)[(frame body).length - 1]'(by omega) = c at *
  have hp : parse ((frame body).take ((frame body).length - 1) ++ [c]) = (body.length, (enc body.length).length, 0) := by
    rw [← e]
    exact parse_enc body.length (by omega) body
  have e2 : feed1 ⟨(frame body).take ((frame body).length - 1), 0, false⟩ c = (init, [⟨body, 0⟩]) := by
    unfold feed1
    rw [if_neg (by simp), if_neg (by simp)]
    simp only [hp]
    rw [if_neg (by omega), if_neg (by omega), if_neg (by simp; omega), if_neg (by rw [← e]; omega), ← e]
    simp [frame, init]
  rw [e2]; simp
theorem feed_frames (bs : List (List UInt8)) (hb : ∀ b ∈ bs, b.length ≤ 4096) : feedL init (bs.flatMap frame) = (init, bs.map (fun b => ⟨b, 0⟩)) := by
  induction bs with
  | nil => rfl
  | cons b bs ih =>
    rw [List.flatMap_cons, feedL_append, feed_frame b (hb b (by simp)), ih (fun x hx => hb x (by simp [hx]))]
    simp
/-- a skipped stretch -/
theorem feed_skip (l : List UInt8) (k : Int) (h : (l.length : Int) ≤ k) : feedL ⟨[], k, false⟩ l = (⟨[], k - l.length, false⟩, []) := by
  induction l generalizing k with
  | nil => simp [feedL]
  | cons c l ih =>
    simp only [List.length_cons] at h
    have e : feed1 ⟨[], k, false⟩ c = (⟨[], k - 1, false⟩, []) := by
      unfold feed1
      rw [if_neg (by simp), if_pos (by simp; omega)]
    simp only [feedL, e]
    rw [ih (k - 1) (by omega)]
    simp; omega
theorem feed_long (n : Nat) (h1 : 4096 < n) (hn : n < 18446744073709551616) : feedL init (enc n) = (⟨[], n, false⟩, [⟨[], 2⟩]) := by
  have hl := enc_len n
  have part : ∀ k, k < (enc n).length → feedL init ((enc n).take k) = (⟨(enc n).take k, 0, false⟩, []) := by
    intro k
    induction k with
    | zero => intro _; rfl
    | succ k ih =>
      intro hk
      have hp := parse_part n hn (k + 1) hk
      rw [List.take_succ_eq_append_getElem (by omega)] at hp ⊢
      rw [feedL_snoc, ih (by omega)]
      generalize (enc n)[k] = c at *
      have e : feed1 ⟨(enc n).take k, 0, false⟩ c = (⟨(enc n).take k ++ [c], 0, false⟩, []) := by
        unfold feed1
        rw [if_neg (by simp), if_neg (by simp)]
        simp only [hp]; simp
      rw [e]; simp
  have e : enc n = (enc n).take ((enc n).length - 1) ++ [(enc n)[(enc n).length - 1]'(by omega)] := by
    rw [← List.take_succ_eq_append_getElem, Nat.sub_add_cancel (by omega), List.take_of_length_le (Nat.le_refl _)]
  have h2 := part ((enc n).length - 1) (by omega)
  rw [e, feedL_snoc, h2]
  generalize hc : (enc n)[(enc n).length - 1]'(by omega) = c at *
  have hp : parse ((enc n).take ((enc n).length - 1) ++ [c]) = (n, (enc n).length, 0) := by
    rw [← e]
    have := parse_enc n hn []
    rwa [List.append_nil] at this
  have e2 : feed1 ⟨(enc n).take ((enc n).length - 1), 0, false⟩ c = (⟨[], n, false⟩, [⟨[], 2⟩]) := by
    unfold feed1
    rw [if_neg (by simp), if_neg (by simp)]
    simp only [hp]
    rw [if_neg (by omega), if_neg (by omega), if_pos (by omega)]
  rw [e2]; simp
/-- a frame that is too long costs only itself -/
theorem feed_after (n : Nat) (h1 : 4096 < n) (hn : n < 18446744073709551616) (z : List UInt8) (hz : z.length = n) (body : List UInt8) (hb : body.length ≤ 4096) :
    feedL init (enc n ++ z ++ frame body) = (init, [⟨[], 2⟩, ⟨body, 0⟩]) := by
  rw [feedL_append, feedL_append, feed_long n h1 hn]
  simp only
  rw [feed_skip z n (by omega), show (⟨[], (n : Int) - z.length, false⟩ : St) = init from by simp [init]; omega]
  simp only
  rw [feed_frame body hb]
  simp
end Go.Proofs.Ytmbmlkllhcgkgaa.Stp
