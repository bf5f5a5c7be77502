/-
  What the reference's Sum computes: the plain digest of the bytes. The world is left alone.
-/
import Derived.Test.YtmhmaodnkifcaaaBase
import Derived.Test.YtmhmaodnkifcaaaFnv
import Derived.Test.YtmhmaodnkifcaaaProg
import Derived.WalkLawsBesides
import Derived.WalkSpells
import Derived.Outline
namespace Go.Proofs.Ytmhmaodnkifcaaa
open Go.RowKit

theorem ret_u64 {a b : Int} (h : a = b) : Value.int .u64 a = Value.int .u64 b := by rw [h]

set_option maxHeartbeats 400000 in
theorem rsum_any (A : Option Addr) (n c B : Nat) (l : List UInt8) (w : World) (hn : l.length = n) (hs : Sl w B A (bys l)) (hm : n ≤ maxLen) :
    Calls Try.prog 45 #[.slice A n c] w fun e w' => e = .returned (.int .u64 (fnv fStart l)) ∧ w = w' := by
  unfold maxLen at hm
  subst hn
  have hst := fStart_lt
  go_enter Try.func45, Try.ntmps45
  go_wp2
  go_loop [3, 4] (fun d' i => ∃ k : Nat, k ≤ l.length ∧ i = .int .i64 k ∧ d' = .int .u64 (fnv fStart (l.take k))) (fun _ i => l.length - (intOf i).toNat)
  case atStart => exact ⟨0, Nat.zero_le _, rfl, by rw [List.take_zero, fnv_nil]; rfl⟩
  case round =>
    obtain ⟨k, hk, rfl, rfl⟩ := hrel
    by_cases hlt : k < l.length
    · obtain ⟨b, off, rfl, hb, hc⟩ := hs.byte hlt
      have hx := l[k].toNat_lt
      go_wp2
      go_round
      case rel => exact ⟨k + 1, by omega, by go_num, ret_u64 (by rw [fnv_take_succ fStart l k hlt]; exact walk_step _ _ (fnv_lt _ _ hst))⟩
      case measure => simp [intOf]; omega
    · have hk' : k = l.length := by omega
      go_wp2
      go_ret
      exact ⟨rfl, rfl⟩
end Go.Proofs.Ytmhmaodnkifcaaa
