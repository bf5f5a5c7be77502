/-
  The law's 'awake'; InstrNames walked.
-/
import Derived.Test.YtgmepgbdbkamlaaLawI1
namespace Go.Proofs.Ytgmepgbdbkamlaa
open Go.RowKit

theorem str_any {w : World} {B : Nat} {A : Option Addr} {n c : Nat} {l : List UInt8} (h : Sl w B A (bys l)) (hn : l.length = n) :
    (convert 27 9 (.slice A n c)).run Try.prog w = .ok (.string (strOf l)) w :=
  run_str w 27 5 9 Try.underlying27 Try.underlying5 Try.underlying9 B A n c l hn h
theorem str_own {w : World} {base : Nat} {A : Option Addr} {n c : Nat} {l : List UInt8} (h : w.ownsRow base 5 1 (.slice A n c) n (bys l)) : (convert 27 9 (.slice A n c)).run Try.prog w = .ok (.string (strOf l)) w :=
  str_any (Sl.of_own h) (by have := h.1; simpa using this)

theorem enc1_300 : encI 1 300 = [1, 172, 2] := by decide +kernel

set_option maxHeartbeats 1000000 in
theorem awake_any (w : World) : Calls Try.prog 12 #[] w fun e w' => e = .returned (.bool true) ∧ Below w.heap.size w w' := by
  have H := hid (fun w => iencode_yes 1 300 w (by omega) (by omega) (by rfl) (by omega))
  go_enter Try.func12, Try.ntmps12
  go_wp2_with fail
  refine (H.out _).mono ?_
  rintro e w1 ⟨A1, c1, rfl, ho1, hb1⟩
  rw [enc1_300] at ho1 ⊢
  have k := str_own ho1
  have HB := hid hb1
  clear ho1 hb1
  simp only [List.length_cons, List.length_nil, Nat.zero_add, Nat.reduceAdd] at k ⊢
  have ks : (strOf [1, 172, 2]).toList = [1, 172, 2] := strOf_toList _
  go_wp2
  go_ret
  exact ⟨rfl, HB.out⟩
end Go.Proofs.Ytgmepgbdbkamlaa
