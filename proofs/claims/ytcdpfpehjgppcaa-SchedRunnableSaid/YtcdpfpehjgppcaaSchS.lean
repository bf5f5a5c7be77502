/-
  The reference's SameInts on two slices that hold the same numbers.
-/
import Derived.Test.YtcdpfpehjgppcaaSchR
import Derived.Deep.QuietTactic
import Derived.BigQuiet
namespace Go.Proofs.Ytcdpfpehjgppcaa
open Go.RowKit
theorem below_drewN {B : Nat} {a w : World} (h : Below B a w) (m : Nat) : Below B a (w.drewN m) := ⟨h.os, h.tape, h.output, h.size, h.block⟩
set_option maxHeartbeats 1000000 in
theorem same_yes (A1 A2 : Option Addr) (n c1 c2 B1 B2 : Nat) (xs : List Int) (w : World) (hn : xs.length = n) (h1 : Sl w B1 A1 (nums .i64 xs)) (h2 : Sl w B2 A2 (nums .i64 xs)) (hB1 : B1 ≤ w.heap.size) (hB2 : B2 ≤ w.heap.size) (hm : n ≤ 100000) :
    Calls Try.prog 12 #[.slice A1 n c1, .slice A2 n c2] w fun e w' => e = .returned (.bool true) ∧ Below w.heap.size w w' := by
  have HN := hid hn
  clear hn
  go_enter Try.func12, Try.ntmps12
  go_wp2
  go_loopw [5] (fun i wr => ∃ k : Nat, k ≤ n ∧ i = .int .i64 k ∧ Below w.heap.size w wr) (fun i _ => n - (intOf i).toNat)
  case atStart => exact ⟨0, Nat.zero_le _, rfl, Below.refl _ _⟩
  case round =>
    obtain ⟨k, hk, rfl, hb⟩ := hrel
    by_cases hlt : k < n
    · obtain ⟨b1, o1, rfl, _, g1⟩ := (h1.below (hb.mono hB1)).num (i := k) (by rw [HN.out]; exact hlt)
      obtain ⟨b2, o2, rfl, _, g2⟩ := (h2.below (hb.mono hB2)).num (i := k) (by rw [HN.out]; exact hlt)
      have HB := hid hb
      clear hb h1 h2
      have i0 : (0 : Int) ≤ (k : Int) := by omega
      have i1 : (k : Int) < (n : Int) := by omega
      go_wp2
      go_quiet (fail)
      go_wp2
      go_roundw
      case rel => exact ⟨k + 1, by omega, by go_num, below_drewN HB.out _⟩
      case measure => simp [intOf]; omega
    · have HB := hid hb
      clear hb h1 h2
      go_wp2
      go_ret
      exact ⟨rfl, HB.out⟩
end Go.Proofs.Ytcdpfpehjgppcaa
