/-
  InstrDecode walked.
-/
import Derived.Test.YtgmepgbdbkamlaaLawI6
namespace Go.Proofs.Ytgmepgbdbkamlaa
open Go.RowKit
theorem idecode_no (A : Option Addr) (n c : Nat) (x : Nat) (w : World) (h : 40 < n) :
    Calls Try.prog 5 #[.slice A n c, .int .u8 x] w fun e w' => e = .returned (.bool true) ∧ Below w.heap.size w w' := by
  go_enter Try.func5, Try.ntmps5
  go_wp2_with fail
  refine (awake_any _).mono ?_
  rintro e w1 ⟨rfl, hb1⟩
  go_wp2
  go_ret
  exact ⟨rfl, hb1⟩
set_option maxHeartbeats 1000000 in
theorem idecode_yes (A : Option Addr) (n c : Nat) (x : Nat) (l : List UInt8) (w : World) (hn : l.length = n) (hc : n ≤ c) (hs : Sl w w.heap.size A (bys l)) (h : n ≤ 40) :
    Calls Try.prog 5 #[.slice A n c, .int .u8 x] w fun e w' => e = .returned (.bool true) ∧ Below w.heap.size w w' := by
  have HN := hid hn
  have HC := hid hc
  have HS := hid hs
  clear hn hc hs
  go_enter Try.func5, Try.ntmps5
  go_wp2_with fail
  refine (awake_any _).mono ?_
  rintro e w1 ⟨rfl, hb1⟩
  have HB1 := hid hb1
  clear hb1
  go_wp2_with fail
  refine (same_any A n c l w1 HN.out HC.out (HS.out.go HB1.out) (by omega)).mono ?_
  rintro e w2 ⟨rfl, hb2⟩
  have HB2 := hid (below_go HB1.out hb2)
  clear hb2
  obtain ⟨y, hy⟩ : ∃ y, y = x % 28 := ⟨_, rfl⟩
  have e28 : (x : Int).tmod 28 = (y : Int) := by rw [hy]; rfl
  have hy28 : y < 28 := by omega
  clear hy
  have HO := hid (own_one w2 5 w.heap.size y (by omega) HB2.out.size)
  have HB3 := hid (below_go HB2.out (below_new w2 #[.int .u8 (y : Int)] 5))
  have HS3 := hid (HS.out.go HB3.out)
  go_wp2_with (at_builtin; refine wp_app8g (by rfl) (.tmp 17) (.tmp 18) rfl w.heap.size (some ⟨w2.heap.size, 0, none⟩) 1 1 [UInt8.ofNat y] rfl HO.out A _ n c l rfl HN.out HS3.out (n + 1) (by omega) (by omega) (by exact HB3.out.size) ?_)
  intro A4 c4 w4 ho4 hg4
  have HB4 := hid (HB3.out.grown hg4 HB3.out.size (own_lt HO.out))
  have HS4 := hid (same_any A4 (n + 1) c4 _ w4 (by simp [HN.out]) (own_le ho4) (Sl.of_own ho4) (by omega))
  clear ho4 hg4
  go_wp2_with fail
  refine HS4.out.mono ?_
  rintro e w5 ⟨rfl, hb5⟩
  have HB5 := hid (below_go HB4.out hb5)
  clear hb5
  go_wp2
  go_ret
  exact ⟨rfl, HB5.out⟩
theorem idecode_walk (A : Option Addr) (n c : Nat) (x : Nat) (l : List UInt8) (w : World) (hn : l.length = n) (hc : n ≤ c) (hs : Sl w w.heap.size A (bys l)) :
    Calls Try.prog 5 #[.slice A n c, .int .u8 x] w fun e w' => e = .returned (.bool true) ∧ Below w.heap.size w w' := by
  by_cases h : 40 < n
  · exact idecode_no A n c x w h
  · exact idecode_yes A n c x l w hn hc hs (by omega)
end Go.Proofs.Ytgmepgbdbkamlaa
