/-
  The tape of the laws: Word.
-/
import Derived.Test.YtmhmaodnkifcaaaTapeOf
import Derived.Laws.Bits64
namespace Go.Proofs.Ytmhmaodnkifcaaa
open Go.RowKit

theorem bits_or_range (a b : Int) : 0 ≤ bits .or .u64 a b ∧ bits .or .u64 a b < 18446744073709551616 := by
  show 0 ≤ IntKind.u64.wrap _ ∧ IntKind.u64.wrap _ < _
  rw [IntKind.wrap_u64]
  omega
theorem bits_xor_range (a b : Int) : 0 ≤ bits .xor .u64 a b ∧ bits .xor .u64 a b < 18446744073709551616 := by
  show 0 ≤ IntKind.u64.wrap _ ∧ IntKind.u64.wrap _ < _
  rw [IntKind.wrap_u64]
  omega

set_option maxHeartbeats 1000000 in
theorem word_any (lo hi g n i : Nat) (w : World) (h : Tp w lo hi g n i) (hi2 : i < 100000000) :
    Calls Try.prog 49 #[.pointer (some ⟨g, 0, none⟩), .int .u32 1] w fun e w' => ∃ (v : Int) (i' : Nat), 0 ≤ v ∧ v < 18446744073709551616 ∧ e = .returned (.int .u64 v) ∧ i < i' ∧ i' ≤ i + 10 ∧ Tp w' lo hi g n i' ∧ w.grownBy w' (some g) := by
  have HT := hid h
  clear h
  go_enter Try.func49, Try.ntmps49
  go_wp2_with fail
  refine (next_any lo hi g n i 3 w HT.out (by omega) (by omega) (by omega)).mono ?_
  rintro e w1 ⟨r1, hr1, rfl, ht1, hg1⟩
  have HT1 := hid ht1
  have HG1 := hid hg1
  clear ht1 hg1
  go_wp2_with fail
  refine (next_any lo hi g n (i + 1) 8 w1 HT1.out (by omega) (by omega) (by omega)).mono ?_
  rintro e w2 ⟨r2, hr2, rfl, ht2, hg2⟩
  have HT2 := hid ht2
  have HG2 := hid (grown_go HG1.out hg2)
  clear ht2 hg2
  go_wp2_with fail
  refine (next_any lo hi g n (i + 1 + 1) 3 w2 HT2.out (by omega) (by omega) (by omega)).mono ?_
  rintro e w3 ⟨r3, hr3, rfl, ht3, hg3⟩
  have HT3 := hid ht3
  have HG3 := hid (grown_go HG2.out hg3)
  clear ht3 hg3
  go_wp2_with fail
  refine (next_any lo hi g n (i + 1 + 1 + 1) 6 w3 HT3.out (by omega) (by omega) (by omega)).mono ?_
  rintro e w4 ⟨r4, hr4, rfl, ht4, hg4⟩
  have HT4 := hid ht4
  have HG4 := hid (grown_go HG3.out hg4)
  clear ht4 hg4
  go_wp2_with fail
  refine (next_any lo hi g n (i + 1 + 1 + 1 + 1) 20 w4 HT4.out (by omega) (by omega) (by omega)).mono ?_
  rintro e w5 ⟨r5, hr5, rfl, ht5, hg5⟩
  have HT5 := hid ht5
  have HG5 := hid (grown_go HG4.out hg5)
  clear ht5 hg5
  by_cases h5 : r5 = 0
  · subst h5
    go_wp2_with fail
    refine (next_any lo hi g n (i + 1 + 1 + 1 + 1 + 1) 64 w5 HT5.out (by omega) (by omega) (by omega)).mono ?_
    rintro e w6 ⟨r6, hr6, rfl, ht6, hg6⟩
    have HT6 := hid ht6
    have HG6 := hid (grown_go HG5.out hg6)
    clear ht6 hg6
    go_wp2
    go_ret
    exact ⟨_, _, (bits_xor_range _ _).1, (bits_xor_range _ _).2, rfl, by omega, by omega, HT6.out, HG6.out⟩
  · have h5' : ((r5 : Int) == 0) = false := by simp; omega
    go_wp2
    go_ret
    exact ⟨_, _, (bits_or_range _ _).1, (bits_or_range _ _).2, rfl, by omega, by omega, HT5.out, HG5.out⟩
end Go.Proofs.Ytmhmaodnkifcaaa
