/-
  The law's awake; SchedPick walked.
-/
import Derived.Test.YtcdpfpehjgppcaaSchR
namespace Go.Proofs.Ytcdpfpehjgppcaa
open Go.RowKit
set_option linter.unusedSimpArgs false

theorem pick_awake : pickL [1, 3, 1] 3 = (3, true) := by decide +kernel

set_option maxHeartbeats 1000000 in
theorem awake_any (w : World) : Calls Try.prog 7 #[] w fun e w' => e = .returned (.bool true) ∧ Below w.heap.size w w' := by
  have HP := hid (pick_any (some ⟨w.heap.size, 0, none⟩) 3 3 [1, 3, 1] 3 (w.alloc (.cells #[.int .i64 1, .int .i64 3, .int .i64 1] 3)) rfl ((Sl.new w #[.int .i64 1, .int .i64 3, .int .i64 1] 3 (0, 0)).mono (by simp)) (by omega))
  rw [pick_awake] at HP
  unfold retP at HP
  go_enter Try.func7, Try.ntmps7
  go_wp2_with fail
  refine HP.out.mono ?_
  rintro e w1 ⟨rfl, hb1⟩
  have HB := hid (below_go (below_new w _ _) hb1)
  clear hb1
  go_wp2
  go_ret
  exact ⟨rfl, HB.out⟩

theorem pick_no (R : Option Addr) (m cm : Nat) (A : Option Addr) (n c : Nat) (q : Nat) (w : World) (h : 40 < m) :
    Calls Try.prog 3 #[.slice R m cm, .slice A n c, .int .u64 q] w fun e w' => e = .returned (.bool true) ∧ Below w.heap.size w w' := by
  go_enter Try.func3, Try.ntmps3
  go_wp2_with fail
  refine (awake_any _).mono ?_
  rintro e w1 ⟨rfl, hb1⟩
  go_wp2
  go_ret
  exact ⟨rfl, hb1⟩

theorem stL_len (l : List UInt8) : (stL l).length ≤ 70 := by simp [stL]; omega

set_option maxHeartbeats 2000000 in
theorem pick_yes (R : Option Addr) (m cm : Nat) (zs : List Int) (A : Option Addr) (n c : Nat) (l : List UInt8) (q : Nat) (w : World) (hm : zs.length = m) (hrs : Sl w w.heap.size R (nums .i64 zs)) (hn : l.length = n) (hs : Sl w w.heap.size A (bys l)) (h : m ≤ 40) :
    Calls Try.prog 3 #[.slice R m cm, .slice A n c, .int .u64 q] w fun e w' => e = .returned (.bool true) ∧ Below w.heap.size w w' := by
  have HP := hid (fun (w' : World) (hb : Below w.heap.size w w') => pick_any R m cm zs q w' hm (hrs.go hb) (by omega))
  have HRP := hid (fun (w' : World) (hb : Below w.heap.size w w') => rpick_any R m cm zs q w' hm (hrs.go hb) (by omega))
  have HST := hid (fun (w' : World) (hb : Below w.heap.size w w') => states_any A n c l w' hn (hs.go hb))
  have HSL := hid (stL_len l)
  clear hm hrs hn hs
  obtain ⟨⟨r1, r2⟩, hr⟩ : ∃ r, r = pickL zs q := ⟨_, rfl⟩
  rw [← hr] at HP HRP
  clear hr
  obtain ⟨ys, hys⟩ : ∃ ys, ys = stL l := ⟨_, rfl⟩
  rw [← hys] at HST HSL
  clear hys
  obtain ⟨⟨s1, s2⟩, hs⟩ : ∃ r, r = pickL ys q := ⟨_, rfl⟩
  have HPS := hid hs
  obtain ⟨k, hk⟩ : ∃ k, k = ys.length := ⟨_, rfl⟩
  have HK := hid hk
  rw [← hk] at HSL HST
  have hk70 := HSL.out
  clear hs hk
  unfold retP at HP HRP
  go_enter Try.func3, Try.ntmps3
  go_wp2_with fail
  refine (HP.out _ (Below.refl _ _)).mono ?_
  rintro e w1 ⟨rfl, hb1⟩
  have HB1 := hid hb1
  clear hb1
  go_wp2_with fail
  refine (HRP.out _ HB1.out).mono ?_
  rintro e w2 ⟨rfl, hb2⟩
  have HB2 := hid (below_go HB1.out hb2)
  clear hb2
  go_wp2_with fail
  refine (HST.out _ HB2.out).mono ?_
  rintro e w3 ⟨A3, c3, rfl, ho3, hb3⟩
  have HB3 := hid (below_go HB2.out hb3)
  have HC3 := hid (pick_any A3 k c3 ys q w3 HK.out.symm (Sl.of_own ho3) (by omega))
  rw [← HPS.out] at HC3
  unfold retP at HC3
  clear ho3 hb3
  go_wp2_with fail
  refine HC3.out.mono ?_
  rintro e w4 ⟨rfl, hb4⟩
  have HB4 := hid (below_go HB3.out hb4)
  clear hb4
  go_wp2_with fail
  refine (HST.out _ HB4.out).mono ?_
  rintro e w5 ⟨A5, c5, rfl, ho5, hb5⟩
  have HB5 := hid (below_go HB4.out hb5)
  have HC5 := hid (rpick_any A5 k c5 ys q w5 HK.out.symm (Sl.of_own ho5) (by omega))
  rw [← HPS.out] at HC5
  unfold retP at HC5
  clear ho5 hb5
  go_wp2_with fail
  refine HC5.out.mono ?_
  rintro e w6 ⟨rfl, hb6⟩
  have HB6 := hid (below_go HB5.out hb6)
  clear hb6
  go_wp2_with fail
  refine (awake_any _).mono ?_
  rintro e w7 ⟨rfl, hb7⟩
  have HB7 := hid (below_go HB6.out hb7)
  clear hb7
  go_wp2
  go_ret
  exact ⟨rfl, HB7.out⟩
theorem pick_walk (R : Option Addr) (m cm : Nat) (zs : List Int) (A : Option Addr) (n c : Nat) (l : List UInt8) (q : Nat) (w : World) (hm : zs.length = m) (hrs : Sl w w.heap.size R (nums .i64 zs)) (hn : l.length = n) (hs : Sl w w.heap.size A (bys l)) :
    Calls Try.prog 3 #[.slice R m cm, .slice A n c, .int .u64 q] w fun e w' => e = .returned (.bool true) ∧ Below w.heap.size w w' := by
  by_cases h : m ≤ 40
  · exact pick_yes R m cm zs A n c l q w hm hrs hn hs h
  · exact pick_no R m cm A n c q w (by omega)
end Go.Proofs.Ytcdpfpehjgppcaa
