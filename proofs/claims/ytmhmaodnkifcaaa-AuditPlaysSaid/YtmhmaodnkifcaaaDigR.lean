/-
  What the reference's Eight and Chain compute.
-/
import Derived.Test.YtmhmaodnkifcaaaDigC
import Derived.Test.YtmhmaodnkifcaaaMem
namespace Go.Proofs.Ytmhmaodnkifcaaa
open Go.RowKit

set_option maxHeartbeats 400000 in
theorem eight_any (d : Nat) (w : World) :
    Calls Try.prog 26 #[.int .u64 d] w fun e w' => ∃ A c, e = .returned (.slice A 8 c) ∧ w'.ownsRow w.heap.size 5 1 (.slice A 8 c) 8 (bys (leb d 8)) ∧ Below w.heap.size w w' := by
  go_enter Try.func26, Try.ntmps26
  go_wp2
  go_loopw [3, 4] (fun v i wr => ∃ (k : Nat) (A : Option Addr) (c : Nat), k ≤ 8 ∧ i = .int .i64 k ∧ v = .slice A k c ∧ wr.ownsRow w.heap.size 5 1 (.slice A k c) k (bys (leb d k)) ∧ Below w.heap.size w wr) (fun _ i _ => 8 - (intOf i).toNat)
  case atStart => exact ⟨0, none, 0, by omega, rfl, rfl, World.ownsRow_nil _ _ _ _, Below.refl _ _⟩
  case round =>
    obtain ⟨k, A, c, hk, rfl, rfl, hown, hbel⟩ := hrel
    by_cases hlt : k < 8
    · have hsz := hbel.size
      go_wp2_with (at_builtin; refine wp_app8 rfl (.tmp 9) (.tmp 15) rfl w.heap.size A k c (leb d k) rfl (hown.alloc _) (some ⟨wr.heap.size, 0, none⟩) (wr.heap.size + 1) 1 1 [UInt8.ofNat (d / 2 ^ (8 * k))] rfl rfl ?_ (k + 1) rfl ?_ ?_ ?_)
      · simpa [bys, ← byte_of_shift] using Sl.new wr #[.int .u8 ((d : Int) / 2 ^ (8 * k) % 256)] 5 (0, 0)
      · omega
      · simp; omega
      · intro A' c' w1 hown1 hg1
        rw [← leb_succ] at hown1
        have hb1 := (hbel.alloc hsz _).grown hg1 (by simp; omega) (own_lt hown)
        go_wp2
        go_roundw
        case rel => exact ⟨k + 1, A', c', by omega, by go_num, rfl, hown1, hb1⟩
        case measure => simp [intOf]; omega
    · obtain rfl : k = 8 := by omega
      have HO := hid hown
      have HB := hid hbel
      clear hown hbel hlt hk
      go_wp2
      go_ret
      exact ⟨A, c, rfl, HO.out, HB.out⟩

theorem rchain_any (A : Option Addr) (n c B d : Nat) (l : List UInt8) (w : World) (hn : l.length = n) (hs : Sl w B A (bys l)) (hm : n ≤ 35184372088832) (hB : B ≤ w.heap.size) :
    Calls Try.prog 27 #[.int .u64 d, .slice A n c] w fun e w' => e = .returned (.int .u64 (chain d l)) ∧ Below w.heap.size w w' := by
  have HN := hid hn
  clear hn
  go_enter Try.func27, Try.ntmps27
  go_wp2_with fail
  refine (eight_any d _).mono ?_
  rintro e w1 ⟨A1, c1, rfl, hown, hb⟩
  have hsz := hb.size
  have hs1 := hs.keep fun p hp => hb.cell (Nat.lt_of_lt_of_le hp hB)
  go_wp2_with (at_builtin; refine wp_app8 rfl (.tmp 6) (.tmp 7) rfl w.heap.size A1 8 c1 (leb d 8) rfl hown A B n c l rfl HN.out hs1 (8 + n) rfl (by omega) hsz ?_)
  intro A' c' w2 hown2 hg2
  have hb2 := hb.grown hg2 hsz (own_lt hown)
  have H := hid (rsum_any A' (8 + n) c' _ (leb d 8 ++ l) w2 (by rw [List.length_append, leb_length, HN.out]) (Sl.of_own hown2) (by unfold maxLen; omega))
  have HB := hid hb2
  clear hown hs1 hown2 hg2 hb2 hb hsz
  go_wp2_with fail
  refine H.out.mono ?_
  rintro e w' ⟨rfl, rfl⟩
  go_wp2
  go_ret
  exact ⟨by rw [fnv_append]; rfl, HB.out⟩
end Go.Proofs.Ytmhmaodnkifcaaa
