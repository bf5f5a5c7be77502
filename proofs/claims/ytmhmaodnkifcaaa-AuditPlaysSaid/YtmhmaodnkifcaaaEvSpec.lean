/-
  What Decode says of bytes: five numbers, one behind the other, nothing behind them, an event that is right.
-/
import Derived.Test.YtmhmaodnkifcaaaEvEnc
namespace Go.Proofs.Ytmhmaodnkifcaaa
open Go.RowKit

/-- m more numbers are read behind those that are there; then the rest; the error. -/
def decR : Nat → List Nat → List UInt8 → List Nat × List UInt8 × Nat
  | 0, ns, l => (ns, l, 0)
  | m + 1, ns, l => if (decU l).2.2 = 0 then decR m (ns ++ [(decU l).1]) (l.drop (decU l).2.1) else ([], [], (decU l).2.2)
theorem decR_ok {m : Nat} {ns : List Nat} {l : List UInt8} (h : (decU l).2.2 = 0) : decR (m + 1) ns l = decR m (ns ++ [(decU l).1]) (l.drop (decU l).2.1) := by rw [decR, if_pos h]
theorem decR_no {m : Nat} {ns : List Nat} {l : List UInt8} (h : (decU l).2.2 ≠ 0) : decR (m + 1) ns l = ([], [], (decU l).2.2) := by rw [decR, if_neg h]
theorem decR_len (m : Nat) : ∀ (ns : List Nat) (l : List UInt8), (decR m ns l).2.2 = 0 → (decR m ns l).1.length = ns.length + m := by
  induction m with
  | zero => intro ns l _; rfl
  | succ m ih =>
    intro ns l h
    by_cases he : (decU l).2.2 = 0
    · rw [decR_ok he] at h ⊢
      rw [ih _ _ h]
      simp
      omega
    · rw [decR_no he] at h
      exact absurd h he
/-- An event, or nothing, and the error. -/
def evZero : Nat × Nat × Nat × Nat × Nat := (0, 0, 0, 0, 0)
instance (p o x : Int) : Decidable (EvOK p o x) := by unfold EvOK; infer_instance
def decE (l : List UInt8) : (Nat × Nat × Nat × Nat × Nat) × Nat :=
  match decR 5 [] l with
  | ([p, o, h, a, x], rest, 0) => if rest ≠ [] then (evZero, 3) else if EvOK p o x then ((p, o, h, a, x), 0) else (evZero, 1)
  | (_, _, e) => (evZero, e)
theorem decE_err {l : List UInt8} {e : Nat} (h : decR 5 [] l = ([], [], e)) : decE l = (evZero, e) := by
  unfold decE
  rw [h]
theorem decE_rest {l rest : List UInt8} {p o h a x : Nat} (hd : decR 5 [] l = ([p, o, h, a, x], rest, 0)) (hr : rest ≠ []) : decE l = (evZero, 3) := by
  unfold decE
  rw [hd]
  simp [hr]
theorem decE_yes {l : List UInt8} {p o h a x : Nat} (hd : decR 5 [] l = ([p, o, h, a, x], [], 0)) (ok : EvOK p o x) : decE l = ((p, o, h, a, x), 0) := by
  unfold decE
  rw [hd]
  simp [ok]
theorem decE_no {l : List UInt8} {p o h a x : Nat} (hd : decR 5 [] l = ([p, o, h, a, x], [], 0)) (no : ¬ EvOK p o x) : decE l = (evZero, 1) := by
  unfold decE
  rw [hd]
  simp [no]

theorem decR_encs (ms : List Nat) : ∀ (ns : List Nat) (more : List UInt8), (∀ n ∈ ms, n < 18446744073709551616) → decR ms.length ns (encs ms ++ more) = (ns ++ ms, more, 0) := by
  induction ms with
  | nil => intro ns more _; simp [decR, encs]
  | cons n ms ih =>
    intro ns more h
    have hu := decU_enc n (h n (by simp)) (encs ms ++ more)
    have e1 : encs (n :: ms) ++ more = enc n ++ (encs ms ++ more) := by simp [encs]
    rw [List.length_cons, e1, decR_ok (by rw [hu]), hu]
    simp only [List.drop_left]
    rw [ih _ _ fun m hm => h m (by simp [hm])]
    simp
theorem decR_cut (ms : List Nat) : ∀ (ns : List Nat) (k : Nat), (∀ n ∈ ms, n < 18446744073709551616) → k < (encs ms).length → decR ms.length ns ((encs ms).take k) = ([], [], 2) := by
  induction ms with
  | nil => intro ns k _ hk; simp [encs] at hk
  | cons n ms ih =>
    intro ns k h hk
    have e1 : encs (n :: ms) = enc n ++ encs ms := by simp [encs]
    rw [e1] at hk ⊢
    rw [List.length_append] at hk
    by_cases hlt : k < (enc n).length
    · have hu := decU_cut n (h n (by simp)) k hlt
      rw [List.take_append_of_le_length (by omega), List.length_cons, decR_no (by rw [hu]; decide), hu]
    · have hu := decU_enc n (h n (by simp)) ((encs ms).take (k - (enc n).length))
      rw [List.take_append, List.take_of_length_le (by omega), List.length_cons, decR_ok (by rw [hu]), hu]
      simp only [List.drop_left]
      exact ih _ _ (fun m hm => h m (by simp [hm])) (by omega)
theorem decE_enc (p o h a x : Nat) (ok : EvOK p o x) (hh : h < 18446744073709551616) (ha : a < 18446744073709551616) : decE (encE p o h a x) = ((p, o, h, a, x), 0) := by
  have hb := ok
  unfold EvOK at hb
  have := decR_encs [p, o, h, a, x] [] [] (by intro n hn; simp at hn; omega)
  exact decE_yes (by simpa [encE] using this) ok
theorem decE_cut (p o h a x k : Nat) (ok : EvOK p o x) (hh : h < 18446744073709551616) (ha : a < 18446744073709551616) (hk : k < (encE p o h a x).length) : decE ((encE p o h a x).take k) = (evZero, 2) := by
  have hb := ok
  unfold EvOK at hb
  exact decE_err (decR_cut [p, o, h, a, x] [] k (by intro n hn; simp at hn; omega) hk)

/-- small. -/
def smallS (n : Nat) : Int := if n ≤ 9223372036854775807 then n else -1
theorem small_any (n : Nat) (w : World) :
    Calls Try.prog 66 #[.int .u64 n] w fun e w' => e = .returned (.int .i64 (smallS n)) ∧ w = w' := by
  unfold smallS
  by_cases hn : n ≤ 9223372036854775807
  · rw [if_pos hn]
    have hw : wrap64 (n : Int) = n := by unfold wrap64; omega
    go_enter Try.func66, Try.ntmps66
    go_wp2
    go_ret
    exact ⟨rfl, rfl⟩
  · rw [if_neg hn]
    go_enter Try.func66, Try.ntmps66
    go_wp2
    go_ret
    exact ⟨rfl, rfl⟩
theorem small_ok (p o x : Nat) : EvOK (smallS p) (smallS o) (smallS x) ↔ EvOK p o x := by
  unfold EvOK smallS
  constructor
  · intro h
    split at h <;> split at h <;> split at h <;> omega
  · intro h
    rw [if_pos (by omega), if_pos (by omega), if_pos (by omega)]
    exact h
theorem small_eq {n : Nat} (h : n ≤ 64) : smallS n = n := by unfold smallS; rw [if_pos (by omega)]
end Go.Proofs.Ytmhmaodnkifcaaa
