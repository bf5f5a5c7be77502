/-
  What a log's bytes are, and what Decode says of bytes: records, each with the digest behind it.
-/
import Derived.Test.YtmhmaodnkifcaaaEvSpec
import Derived.Test.YtmhmaodnkifcaaaDigC
namespace Go.Proofs.Ytmhmaodnkifcaaa
open Go.RowKit

/-- An event: plugin, operation, handle, argument, error. -/
abbrev Ev := Nat × Nat × Nat × Nat × Nat
def encV (e : Ev) : List UInt8 := encE e.1 e.2.1 e.2.2.1 e.2.2.2.1 e.2.2.2.2
/-- An event that is right. -/
def Right (e : Ev) : Prop := EvOK e.1 e.2.1 e.2.2.2.2 ∧ e.2.2.1 < 18446744073709551616 ∧ e.2.2.2.1 < 18446744073709551616
theorem decE_encV (e : Ev) (h : Right e) : decE (encV e) = (e, 0) := decE_enc _ _ _ _ _ h.1 h.2.1 h.2.2
theorem encV_short (e : Ev) (h : Right e) : (encV e).length ≤ 50 := by
  obtain ⟨ok, hh, ha⟩ := h
  unfold EvOK at ok
  exact encs_len [e.1, e.2.1, e.2.2.1, e.2.2.2.1, e.2.2.2.2] (by intro n hn; simp at hn; omega)
/-- A record behind the digest d. -/
def recB (d : Nat) (r : List UInt8) : List UInt8 := encB r ++ leb (chain d r) 8
/-- The records of events, one behind the other. -/
def logB (d : Nat) : List Ev → List UInt8
  | [] => []
  | e :: es => recB d (encV e) ++ logB (chain d (encV e)) es
/-- The digest behind events. -/
def endD (d : Nat) (es : List Ev) : Nat := lastd d (es.map encV)
theorem logB_append (es fs : List Ev) : ∀ d, logB d (es ++ fs) = logB d es ++ logB (endD d es) fs := by
  induction es with
  | nil => intro d; simp [logB, endD, lastd_nil]
  | cons e es ih => intro d; simp [logB, ih, endD, lastd_cons]
theorem logB_snoc (d : Nat) (es : List Ev) (e : Ev) : logB d (es ++ [e]) = logB d es ++ recB (endD d es) (encV e) := by
  rw [logB_append]
  simp [logB]
theorem endD_snoc (d : Nat) (es : List Ev) (e : Ev) : endD d (es ++ [e]) = chain (endD d es) (encV e) := by simp [endD, lastd_snoc]

/-- Bytes decoded from the digest d on: at most f records. -/
def decL : Nat → Nat → List UInt8 → List Ev × Nat
  | 0, _, _ => ([], 0)
  | f + 1, d, l =>
    if l = [] then ([], 0)
    else if (decB l).2.2 ≠ 0 then ([], (decB l).2.2)
    else if l.length - (decB l).2.1 < 8 then ([], 2)
    else if (decE (decB l).1).2 ≠ 0 then ([], (decE (decB l).1).2)
    else if (l.drop (decB l).2.1).take 8 ≠ leb (chain d (decB l).1) 8 then ([], 21)
    else if (decL f (chain d (decB l).1) (l.drop ((decB l).2.1 + 8))).2 ≠ 0 then ([], (decL f (chain d (decB l).1) (l.drop ((decB l).2.1 + 8))).2)
    else ((decE (decB l).1).1 :: (decL f (chain d (decB l).1) (l.drop ((decB l).2.1 + 8))).1, 0)
/-- Events that were read before those that follow. -/
def onto (acc : List Ev) (r : List Ev × Nat) : List Ev × Nat := if r.2 = 0 then (acc ++ r.1, 0) else ([], r.2)
theorem onto_nil (r : List Ev × Nat) (h : r.2 ≠ 0 → r.1 = []) : onto [] r = r := by
  unfold onto
  split
  · simp [Prod.ext_iff, *]
  · simp [Prod.ext_iff, h ‹_›]
theorem decL_nil (f d : Nat) : decL f d [] = ([], 0) := by
  cases f with
  | zero => rfl
  | succ f => simp [decL]
theorem decL_e1 {f d : Nat} {l : List UInt8} (h : l ≠ []) (e : (decB l).2.2 ≠ 0) : decL (f + 1) d l = ([], (decB l).2.2) := by rw [decL, if_neg h, if_pos e]
theorem decL_e2 {f d : Nat} {l : List UInt8} (h : l ≠ []) (e : (decB l).2.2 = 0) (h8 : l.length - (decB l).2.1 < 8) : decL (f + 1) d l = ([], 2) := by rw [decL, if_neg h, if_neg (by simp [e]), if_pos h8]
theorem decL_e3 {f d : Nat} {l : List UInt8} (h : l ≠ []) (e : (decB l).2.2 = 0) (h8 : ¬ l.length - (decB l).2.1 < 8) (e2 : (decE (decB l).1).2 ≠ 0) : decL (f + 1) d l = ([], (decE (decB l).1).2) := by
  rw [decL, if_neg h, if_neg (by simp [e]), if_neg h8, if_pos e2]
theorem decL_e4 {f d : Nat} {l : List UInt8} (h : l ≠ []) (e : (decB l).2.2 = 0) (h8 : ¬ l.length - (decB l).2.1 < 8) (e2 : (decE (decB l).1).2 = 0) (hd : (l.drop (decB l).2.1).take 8 ≠ leb (chain d (decB l).1) 8) : decL (f + 1) d l = ([], 21) := by
  rw [decL, if_neg h, if_neg (by simp [e]), if_neg h8, if_neg (by simp [e2]), if_pos hd]
theorem decL_ok {f d : Nat} {l : List UInt8} (h : l ≠ []) (e : (decB l).2.2 = 0) (h8 : ¬ l.length - (decB l).2.1 < 8) (e2 : (decE (decB l).1).2 = 0) (hd : (l.drop (decB l).2.1).take 8 = leb (chain d (decB l).1) 8) :
    decL (f + 1) d l = onto [(decE (decB l).1).1] (decL f (chain d (decB l).1) (l.drop ((decB l).2.1 + 8))) := by
  rw [decL, if_neg h, if_neg (by simp [e]), if_neg h8, if_neg (by simp [e2]), if_neg (by simp [hd])]
  unfold onto
  by_cases h0 : (decL f (chain d (decB l).1) (l.drop ((decB l).2.1 + 8))).2 = 0
  · rw [if_neg (by simpa using h0), if_pos h0]
    rfl
  · rw [if_pos h0, if_neg h0]
theorem onto_onto (a b : List Ev) (r : List Ev × Nat) : onto a (onto b r) = onto (a ++ b) r := by
  unfold onto
  by_cases h : r.2 = 0
  · simp [h]
  · simp [h]
/-- The record's digest is wanted whole: a record that is cut decodes to nothing. -/
theorem decL_short (f d : Nat) (r : List UInt8) (hr : r.length ≤ 50) (k : Nat) (h0 : 0 < k) (hk : k < (recB d r).length) : decL (f + 1) d ((recB d r).take k) = ([], 2) := by
  have h8 : (leb (chain d r) 8).length = 8 := leb_length _ _
  have hlen : (recB d r).length = (encB r).length + 8 := by simp [recB, h8]
  have ne : (recB d r).take k ≠ [] := by
    intro e
    have := congrArg List.length e
    rw [List.length_take, List.length_nil] at this
    omega
  have hkl : ((recB d r).take k).length = k := by rw [List.length_take]; omega
  by_cases h1 : k < (encB r).length
  · have e : (recB d r).take k = (encB r).take k := by
      unfold recB
      rw [List.take_append_of_le_length (by omega)]
    have hb := decB_cut r (by omega) k h1
    rw [e] at ne ⊢
    rw [decL_e1 ne (by rw [hb]; decide), hb]
  · have e : (recB d r).take k = encB r ++ (leb (chain d r) 8).take (k - (encB r).length) := by
      unfold recB
      rw [List.take_append, List.take_of_length_le (by omega)]
    have hb := decB_encB r ((leb (chain d r) 8).take (k - (encB r).length)) (by omega)
    rw [← e] at hb
    rw [decL_e2 ne (by rw [hb]) (by rw [hb, hkl]; simp only; omega)]
/-- A record in front is read. -/
theorem decL_rec (f d : Nat) (e : Ev) (h : Right e) (more : List UInt8) : decL (f + 1) d (recB d (encV e) ++ more) = onto [e] (decL f (chain d (encV e)) more) := by
  have hs := encV_short e h
  have hb : decB (recB d (encV e) ++ more) = (encV e, (encB (encV e)).length, 0) := by
    unfold recB
    rw [List.append_assoc]
    exact decB_encB _ _ (by omega)
  have hl : (recB d (encV e) ++ more).drop (encB (encV e)).length = leb (chain d (encV e)) 8 ++ more := by
    unfold recB
    rw [List.append_assoc, List.drop_left]
  have h8 : (leb (chain d (encV e)) 8).length = 8 := leb_length _ _
  have ne : recB d (encV e) ++ more ≠ [] := by
    intro h0
    rw [h0] at hl
    have := congrArg List.length hl
    simp [h8] at this
    omega
  rw [decL_ok ne (by rw [hb]) (by rw [hb]; simp [recB, h8]) (by rw [hb]; simp [decE_encV e h]) (by rw [hb]; simp only; rw [hl, List.take_left' h8]), hb]
  simp only [decE_encV e h]
  congr 2
  rw [← List.drop_drop, hl, List.drop_left' h8]
theorem decL_logB (es : List Ev) : ∀ (f d : Nat), es.length ≤ f → (∀ e ∈ es, Right e) → decL f d (logB d es) = (es, 0) := by
  induction es with
  | nil => intro f d _ _; exact decL_nil f d
  | cons e es ih =>
    intro f d hf hr
    obtain ⟨f, rfl⟩ : ∃ g, f = g + 1 := ⟨f - 1, by simp at hf; omega⟩
    rw [logB, decL_rec f d e (hr e (by simp)), ih f _ (by simp at hf; omega) fun x hx => hr x (by simp [hx])]
    rfl
/-- A log that is cut: at the end of a record the events so far, else nothing. -/
theorem decL_cut (es : List Ev) : ∀ (f d k : Nat), es.length < f → (∀ e ∈ es, Right e) → k ≤ (logB d es).length →
    (∃ m, m ≤ es.length ∧ k = (logB d (es.take m)).length ∧ decL f d ((logB d es).take k) = (es.take m, 0)) ∨ ((∀ m, m ≤ es.length → k ≠ (logB d (es.take m)).length) ∧ decL f d ((logB d es).take k) = ([], 2)) := by
  induction es with
  | nil =>
    intro f d k _ _ hk
    simp [logB] at hk
    subst hk
    exact .inl ⟨0, Nat.le_refl _, rfl, by simp [logB, decL_nil]⟩
  | cons e es ih =>
    intro f d k hf hr hk
    obtain ⟨f, rfl⟩ : ∃ g, f = g + 1 := ⟨f - 1, by simp at hf; omega⟩
    have he := hr e (by simp)
    have hs := encV_short e he
    have hpos : 0 < (recB d (encV e)).length := by simp [recB, leb_length]
    rw [logB] at hk ⊢
    rw [List.length_append] at hk
    by_cases h0 : k = 0
    · subst h0
      exact .inl ⟨0, Nat.zero_le _, by simp [logB], by simp [decL_nil]⟩
    · by_cases h1 : k < (recB d (encV e)).length
      · refine .inr ⟨fun m hm => ?_, ?_⟩
        · cases m with
          | zero => simpa [logB] using h0
          | succ m =>
            rw [List.take_succ_cons, logB, List.length_append]
            omega
        · rw [List.take_append_of_le_length (by omega)]
          exact decL_short f d (encV e) hs k (by omega) h1
      · have et : (recB d (encV e) ++ logB (chain d (encV e)) es).take k = recB d (encV e) ++ (logB (chain d (encV e)) es).take (k - (recB d (encV e)).length) := by
          rw [List.take_append, List.take_of_length_le (by omega)]
        rw [et, decL_rec f d e he]
        rcases ih f (chain d (encV e)) (k - (recB d (encV e)).length) (by simp at hf; omega) (fun x hx => hr x (by simp [hx])) (by omega) with ⟨m, hm, hkm, hd⟩ | ⟨hno, hd⟩
        · refine .inl ⟨m + 1, by simp; omega, ?_, ?_⟩
          · rw [List.take_succ_cons, logB, List.length_append]; omega
          · rw [hd]; rfl
        · refine .inr ⟨fun m hm => ?_, by rw [hd]; rfl⟩
          cases m with
          | zero => simpa [logB] using h0
          | succ m =>
            have := hno m (by simp at hm; omega)
            rw [List.take_succ_cons, logB, List.length_append]
            omega
end Go.Proofs.Ytmhmaodnkifcaaa
