/-
  What digest.add and digest.Sum compute: the plain digest of the bytes. The world is left alone.
-/
import Derived.Test.YtmhmaodnkifcaaaBase
import Derived.Test.YtmhmaodnkifcaaaRSum
import Derived.Test.YtmhmaodnkifcaaaProg
import Derived.WalkLawsBesides
import Derived.WalkSpells
import Derived.Outline
namespace Go.Proofs.Ytmhmaodnkifcaaa
open Go.RowKit

set_option maxHeartbeats 400000 in
theorem add_any (A : Option Addr) (n c B d : Nat) (l : List UInt8) (w : World) (hn : l.length = n) (hd : d < 18446744073709551616) (hs : Sl w B A (bys l)) (hm : n ≤ maxLen) :
    Calls Try.prog 64 #[.int .u64 d, .slice A n c] w fun e w' => e = .returned (.int .u64 (fnv d l)) ∧ w = w' := by
  unfold maxLen at hm
  subst hn
  go_enter Try.func64, Try.ntmps64
  go_wp2
  go_loop [0, 9] (fun d' i => ∃ k : Nat, k ≤ l.length ∧ i = .int .i64 k ∧ d' = .int .u64 (fnv d (l.take k))) (fun _ i => l.length - (intOf i).toNat)
  case atStart => exact ⟨0, Nat.zero_le _, rfl, by rw [List.take_zero, fnv_nil]⟩
  case round =>
    obtain ⟨k, hk, rfl, rfl⟩ := hrel
    by_cases hlt : k < l.length
    · obtain ⟨b, off, rfl, hb, hc⟩ := hs.byte hlt
      have hx := l[k].toNat_lt
      go_wp2
      go_round
      case rel => exact ⟨k + 1, by omega, by go_num, ret_u64 (by rw [fnv_take_succ d l k hlt]; exact walk_step _ _ (fnv_lt _ _ hd))⟩
      case measure => simp [intOf]; omega
    · have hk' : k = l.length := by omega
      go_wp2
      go_ret
      exact ⟨rfl, rfl⟩

theorem start_nat : (14695981039346656037 : Int) = (fStart : Int) := rfl

theorem sum_any (A : Option Addr) (n c B : Nat) (l : List UInt8) (w : World) (hn : l.length = n) (hs : Sl w B A (bys l)) (hm : n ≤ maxLen) :
    Calls Try.prog 42 #[.slice A n c] w fun e w' => e = .returned (.int .u64 (fnv fStart l)) ∧ w = w' := by
  have h := add_any A n c B fStart l w hn fStart_lt hs hm
  rw [← start_nat] at h
  have H := hid h
  clear h
  go_enter Try.func42, Try.ntmps42
  go_wp2_with fail
  refine H.out.mono ?_
  rintro e w' ⟨rfl, rfl⟩
  go_wp2
  go_ret
  exact ⟨rfl, rfl⟩

end Go.Proofs.Ytmhmaodnkifcaaa
