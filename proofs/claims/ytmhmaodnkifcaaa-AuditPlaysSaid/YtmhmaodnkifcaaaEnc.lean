/-
  The encoding of numbers and byte strings as plain functions on lists of bytes, and its laws. No program is named here.
-/
namespace Go.Proofs.Ytmhmaodnkifcaaa

/-- The encoding of a number: groups of seven bits, the lowest first. -/
def enc (n : Nat) : List UInt8 := if n < 128 then [UInt8.ofNat n] else UInt8.ofNat (n % 128 + 128) :: enc (n / 128)
termination_by n
decreasing_by omega

theorem enc_small {n : Nat} (h : n < 128) : enc n = [UInt8.ofNat n] := by rw [enc, if_pos h]
theorem enc_big {n : Nat} (h : ¬ n < 128) : enc n = UInt8.ofNat (n % 128 + 128) :: enc (n / 128) := by rw [enc, if_neg h]
theorem enc_pos (n : Nat) : 0 < (enc n).length := by
  by_cases h : n < 128
  · rw [enc_small h]; simp
  · rw [enc_big h]; simp
theorem enc_len (k n : Nat) (h : n < 2 ^ (7 * (k + 1))) : (enc n).length ≤ k + 1 := by
  induction k generalizing n with
  | zero => rw [enc_small (by simpa using h)]; simp
  | succ k ih =>
    by_cases hn : n < 128
    · rw [enc_small hn]; simp
    · rw [enc_big hn, List.length_cons]
      have e : 2 ^ (7 * (k + 1 + 1)) = 128 * 2 ^ (7 * (k + 1)) := by rw [show 7 * (k + 1 + 1) = 7 + 7 * (k + 1) from by omega, Nat.pow_add]
      have := ih (n / 128) (by omega)
      omega
theorem enc_len10 (n : Nat) (h : n < 18446744073709551616) : (enc n).length ≤ 10 := enc_len 9 n (Nat.lt_of_lt_of_le h (by decide))

/-- Bytes read as groups of seven bits. -/
def val : List UInt8 → Nat
  | [] => 0
  | c :: l => c.toNat % 128 + 128 * val l
theorem val_snoc (l : List UInt8) (c : UInt8) : val (l ++ [c]) = val l + 128 ^ l.length * (c.toNat % 128) := by
  induction l with
  | nil => simp [val]
  | cons d l ih =>
    simp only [List.cons_append, val, ih, List.length_cons, Nat.pow_succ, Nat.mul_add]
    rw [Nat.mul_comm (128 ^ l.length) 128, Nat.mul_assoc, Nat.add_assoc]
theorem val_lt (l : List UInt8) : val l < 128 ^ l.length := by
  induction l with
  | nil => simp [val]
  | cons c l ih =>
    simp only [val, List.length_cons, Nat.pow_succ]
    have := Nat.mod_lt c.toNat (show 0 < 128 by decide)
    omega

/-- What Uint returns: the number, the size, the error (2: too short, 3: not in the form). i bytes have been read, which give acc. -/
def dec : List UInt8 → Nat → Nat → Nat × Nat × Nat
  | [], _, _ => (0, 0, 2)
  | c :: l, i, acc =>
    if (i = 9 ∧ 1 < c.toNat) ∨ (0 < i ∧ c.toNat = 0) then (0, 0, 3)
    else if c.toNat < 128 then (acc + 128 ^ i * (c.toNat % 128), i + 1, 0)
    else dec l (i + 1) (acc + 128 ^ i * (c.toNat % 128))

theorem dec_bad {c : UInt8} {l : List UInt8} {i acc : Nat} (h : (i = 9 ∧ 1 < c.toNat) ∨ (0 < i ∧ c.toNat = 0)) : dec (c :: l) i acc = (0, 0, 3) := by rw [dec, if_pos h]
theorem dec_last {c : UInt8} {l : List UInt8} {i acc : Nat} (h : ¬ ((i = 9 ∧ 1 < c.toNat) ∨ (0 < i ∧ c.toNat = 0))) (hc : c.toNat < 128) : dec (c :: l) i acc = (acc + 128 ^ i * (c.toNat % 128), i + 1, 0) := by
  rw [dec, if_neg h, if_pos hc]
theorem dec_more {c : UInt8} {l : List UInt8} {i acc : Nat} (h : ¬ ((i = 9 ∧ 1 < c.toNat) ∨ (0 < i ∧ c.toNat = 0))) (hc : ¬ c.toNat < 128) : dec (c :: l) i acc = dec l (i + 1) (acc + 128 ^ i * (c.toNat % 128)) := by
  rw [dec, if_neg h, if_neg hc]

def decU (l : List UInt8) : Nat × Nat × Nat := dec l 0 0

/-- The state of a reading: k bytes have been read, each with the bit 128, and the rest decides. -/
def Upto (l : List UInt8) (k : Nat) : Prop := decU l = dec (l.drop k) k (val (l.take k))
theorem upto_zero (l : List UInt8) : Upto l 0 := by simp [Upto, decU, val]
theorem upto_acc {l : List UInt8} {k : Nat} (hk : k < l.length) : val (l.take k) + 128 ^ k * (l[k].toNat % 128) = val (l.take (k + 1)) := by
  rw [List.take_succ_eq_append_getElem hk, val_snoc, List.length_take, Nat.min_eq_left (by omega)]
theorem upto_succ {l : List UInt8} {k : Nat} (h : Upto l k) (hk : k < l.length) (h9 : k ≠ 9) (hc : 128 ≤ l[k].toNat) : Upto l (k + 1) := by
  unfold Upto at h ⊢
  rw [h, List.drop_eq_getElem_cons hk, dec_more (by omega) (by omega), upto_acc hk]
theorem upto_bad {l : List UInt8} {k : Nat} (h : Upto l k) (hk : k < l.length) (hc : (k = 9 ∧ 1 < l[k].toNat) ∨ (0 < k ∧ l[k].toNat = 0)) : decU l = (0, 0, 3) := by
  unfold Upto at h
  rw [h, List.drop_eq_getElem_cons hk, dec_bad hc]
theorem upto_last {l : List UInt8} {k : Nat} (h : Upto l k) (hk : k < l.length) (h1 : ¬ ((k = 9 ∧ 1 < l[k].toNat) ∨ (0 < k ∧ l[k].toNat = 0))) (hc : l[k].toNat < 128) : decU l = (val (l.take (k + 1)), k + 1, 0) := by
  unfold Upto at h
  rw [h, List.drop_eq_getElem_cons hk, dec_last h1 hc, upto_acc hk]
theorem upto_end {l : List UInt8} {k : Nat} (h : Upto l k) (hk : l.length ≤ k) : decU l = (0, 0, 2) := by
  unfold Upto at h
  rw [h, List.drop_eq_nil_of_le hk, dec]

theorem val_take_lt (l : List UInt8) (k : Nat) : val (l.take k) < 128 ^ k := by
  have h1 := val_lt (l.take k)
  have h2 : (l.take k).length ≤ k := List.length_take_le _ _
  exact Nat.lt_of_lt_of_le h1 (Nat.pow_le_pow_right (by decide) h2)
/-- Ten groups fit, the last one being 0 or 1. -/
theorem val_fits {l : List UInt8} {k : Nat} (hk : k < l.length) (h10 : k < 10) (hc : k = 9 → l[k].toNat ≤ 1) : val (l.take (k + 1)) < 18446744073709551616 := by
  by_cases h9 : k = 9
  · subst h9
    rw [← upto_acc hk]
    have h1 := val_take_lt l 9
    have h2 := hc rfl
    have e : 128 ^ 9 = 9223372036854775808 := by decide
    rw [e] at *
    have : l[9].toNat % 128 ≤ 1 := by omega
    omega
  · have h1 := val_take_lt l (k + 1)
    have h2 : 128 ^ (k + 1) ≤ 128 ^ 9 := Nat.pow_le_pow_right (by decide) (by omega)
    have e : 128 ^ 9 = 9223372036854775808 := by decide
    omega

/-! ### Decoding inverts encoding -/
theorem dec_enc (m : Nat) : ∀ (i acc : Nat) (more : List UInt8), i + (enc m).length ≤ 10 → 128 ^ i * m < 18446744073709551616 → (i = 0 ∨ 0 < m) → dec (enc m ++ more) i acc = (acc + 128 ^ i * m, i + (enc m).length, 0) := by
  induction m using Nat.strongRecOn with
  | ind m ih =>
    intro i acc more h10 hlt hpos
    by_cases h : m < 128
    · rw [enc_small h] at h10 ⊢
      have e : (UInt8.ofNat m).toNat = m := by simp [UInt8.toNat_ofNat']; omega
      rw [List.singleton_append, dec_last, e, Nat.mod_eq_of_lt h, List.length_singleton]
      · rw [e]
        rintro (⟨rfl, h1⟩ | ⟨h1, h2⟩)
        · have e9 : 128 ^ 9 = 9223372036854775808 := by decide
          rw [e9] at hlt
          omega
        · omega
      · rw [e]; exact h
    · rw [enc_big h] at h10 ⊢
      have hlen := enc_pos (m / 128)
      rw [List.length_cons] at h10
      have e : (UInt8.ofNat (m % 128 + 128)).toNat = m % 128 + 128 := by simp [UInt8.toNat_ofNat']; omega
      rw [List.cons_append, dec_more, ih (m / 128) (by omega) (i + 1) _ more (by omega), e, List.length_cons]
      · have e1 : (m % 128 + 128) % 128 = m % 128 := by omega
        rw [e1, Nat.pow_succ, Nat.mul_assoc, Nat.add_assoc, ← Nat.mul_add]
        have e2 : m % 128 + 128 * (m / 128) = m := Nat.mod_add_div m 128
        rw [e2]
        congr 2
        omega
      · rw [Nat.pow_succ, Nat.mul_assoc]
        exact Nat.lt_of_le_of_lt (Nat.mul_le_mul_left _ (Nat.mul_div_le m 128)) hlt
      · right; omega
      · rw [e]; omega
      · rw [e]; omega
theorem decU_enc (n : Nat) (h : n < 18446744073709551616) (more : List UInt8) : decU (enc n ++ more) = (n, (enc n).length, 0) := by
  unfold decU
  rw [dec_enc n 0 0 more (by have := enc_len10 n h; omega) (by simpa using h) (.inl rfl)]
  simp

theorem dec_cut (m : Nat) : ∀ (i acc k : Nat), i + (enc m).length ≤ 10 → k < (enc m).length → dec ((enc m).take k) i acc = (0, 0, 2) := by
  induction m using Nat.strongRecOn with
  | ind m ih =>
    intro i acc k h10 hk
    cases k with
    | zero => rw [List.take_zero, dec]
    | succ k =>
      by_cases h : m < 128
      · rw [enc_small h] at hk; simp at hk
      · rw [enc_big h] at h10 hk ⊢
        rw [List.length_cons] at h10 hk
        have hlen := enc_pos (m / 128)
        have e : (UInt8.ofNat (m % 128 + 128)).toNat = m % 128 + 128 := by simp [UInt8.toNat_ofNat']; omega
        rw [List.take_succ_cons, dec_more, ih (m / 128) (by omega) _ _ _ (by omega) (by omega)]
        · rw [e]; omega
        · rw [e]; omega
theorem decU_cut (n : Nat) (h : n < 18446744073709551616) (k : Nat) (hk : k < (enc n).length) : decU ((enc n).take k) = (0, 0, 2) :=
  dec_cut n 0 0 k (by have := enc_len10 n h; omega) hk

theorem dec_size (l : List UInt8) : ∀ i acc, (dec l i acc).2.1 ≤ i + l.length := by
  induction l with
  | nil => intro i acc; simp [dec]
  | cons c l ih =>
    intro i acc
    rw [dec]
    split
    · simp
    · split
      · simp
      · have := ih (i + 1) (acc + 128 ^ i * (c.toNat % 128))
        simp only [List.length_cons]
        omega
theorem decU_size (l : List UInt8) : (decU l).2.1 ≤ l.length := by have := dec_size l 0 0; unfold decU; omega
theorem dec_err (l : List UInt8) : ∀ i acc, (dec l i acc).2.2 ≤ 3 := by
  induction l with
  | nil => intro i acc; simp [dec]
  | cons c l ih =>
    intro i acc
    rw [dec]
    split
    · simp
    · split
      · simp
      · exact ih _ _
theorem decU_err (l : List UInt8) : (decU l).2.2 ≤ 3 := dec_err l 0 0
theorem dec_size_pos (l : List UInt8) : ∀ i acc, (dec l i acc).2.2 = 0 → i < (dec l i acc).2.1 := by
  induction l with
  | nil => intro i acc; simp [dec]
  | cons c l ih =>
    intro i acc
    rw [dec]
    split
    · simp
    · split
      · simp
      · intro h
        have := ih _ _ h
        omega
theorem decU_size_pos (l : List UInt8) (h : (decU l).2.2 = 0) : 0 < (decU l).2.1 := dec_size_pos l 0 0 h

/-! ### Byte strings -/
def encB (s : List UInt8) : List UInt8 := enc s.length ++ s
/-- What Bytes returns. -/
def decB (l : List UInt8) : List UInt8 × Nat × Nat :=
  if (decU l).2.2 ≠ 0 then ([], 0, (decU l).2.2)
  else if 65536 < (decU l).1 then ([], 0, 4)
  else if l.length - (decU l).2.1 < (decU l).1 then ([], 0, 2)
  else ((l.drop (decU l).2.1).take (decU l).1, (decU l).2.1 + (decU l).1, 0)

theorem decB_err {l : List UInt8} (h : (decU l).2.2 ≠ 0) : decB l = ([], 0, (decU l).2.2) := by rw [decB, if_pos h]
theorem decB_big {l : List UInt8} (h : (decU l).2.2 = 0) (h1 : 65536 < (decU l).1) : decB l = ([], 0, 4) := by rw [decB, if_neg (by omega), if_pos h1]
theorem decB_short {l : List UInt8} (h : (decU l).2.2 = 0) (h1 : ¬ 65536 < (decU l).1) (h2 : l.length - (decU l).2.1 < (decU l).1) : decB l = ([], 0, 2) := by rw [decB, if_neg (by omega), if_neg h1, if_pos h2]
theorem decB_ok {l : List UInt8} (h : (decU l).2.2 = 0) (h1 : ¬ 65536 < (decU l).1) (h2 : ¬ l.length - (decU l).2.1 < (decU l).1) :
    decB l = ((l.drop (decU l).2.1).take (decU l).1, (decU l).2.1 + (decU l).1, 0) := by rw [decB, if_neg (by omega), if_neg h1, if_neg h2]

theorem decB_encB (s more : List UInt8) (h : s.length ≤ 65536) : decB (encB s ++ more) = (s, (encB s).length, 0) := by
  have e : decU (encB s ++ more) = (s.length, (enc s.length).length, 0) := by
    unfold encB
    rw [List.append_assoc]
    exact decU_enc s.length (by omega) _
  rw [decB_ok (by rw [e]) (by rw [e]; simpa using h) (by rw [e]; simp [encB]), e]
  simp [encB, List.append_assoc]
theorem decB_long (s more : List UInt8) (h : 65536 < s.length) (h1 : s.length < 18446744073709551616) : decB (encB s ++ more) = ([], 0, 4) := by
  have e : decU (encB s ++ more) = (s.length, (enc s.length).length, 0) := by
    unfold encB
    rw [List.append_assoc]
    exact decU_enc s.length h1 _
  rw [decB_big (by rw [e]) (by rw [e]; exact h)]
theorem decB_cut (s : List UInt8) (h : s.length ≤ 65536) (k : Nat) (hk : k < (encB s).length) : decB ((encB s).take k) = ([], 0, 2) := by
  by_cases h1 : k < (enc s.length).length
  · have e : decU ((encB s).take k) = (0, 0, 2) := by
      unfold encB
      rw [List.take_append_of_le_length (by omega)]
      exact decU_cut s.length (by omega) k h1
    rw [decB_err (by rw [e]; decide), e]
  · have e : (encB s).take k = enc s.length ++ s.take (k - (enc s.length).length) := by
      unfold encB
      rw [List.take_append, List.take_of_length_le (by omega)]
    have e2 := decU_enc s.length (by omega) (s.take (k - (enc s.length).length))
    rw [← e] at e2
    rw [decB_short (by rw [e2]) (by rw [e2]; simpa using h) (by
      rw [e2]
      have : ((encB s).take k).length = k := by rw [List.length_take]; omega
      rw [this]
      simp [encB] at hk
      simp
      omega)]
theorem decB_len (l : List UInt8) : (decB l).1.length ≤ l.length := by
  unfold decB
  split
  · simp
  · split
    · simp
    · split
      · simp
      · simp; omega
theorem decB_size (l : List UInt8) : (decB l).2.1 ≤ l.length := by
  have := decU_size l
  unfold decB
  split
  · simp
  · split
    · simp
    · split
      · simp
      · simp; omega
end Go.Proofs.Ytmhmaodnkifcaaa
