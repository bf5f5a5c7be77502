/-
  DigestSum, walked.
-/
import Derived.Test.YtnjnlgpdkehdhaaDigR
import Derived.Lib.SlBytesConst
namespace Go.Proofs.Ytnjnlgpdkehdhaa
open Go.RowKit

theorem awake_num : (fnv fStart [97] : Int) = 12638187200555641996 := by decide +kernel

theorem awake_any (w : World) : Calls Try.prog 9 #[] w fun e w' => e = .returned (.bool true) ∧ Below w.heap.size w w' := by
  have h1 := sum_any (some ⟨w.heap.size, 0, none⟩) 1 1 (w.heap.size + 1) [97] (w.alloc (.cells #[.int .u8 97] 5 (1, 2))) rfl (Sl.new w #[.int .u8 97] 5 (1, 2)) (by unfold maxLen; omega)
  rw [awake_num] at h1
  have H := hid h1
  clear h1
  have kc := fun (w : World) (C : Array Value) (n c : Nat) => Lib.run_convert_bytes_const (P := Try.prog) w 22 5 C n c Try.underlying22 Try.underlying5
  go_enter Try.func9, Try.ntmps9
  go_wp2_with fail
  refine H.out.mono ?_
  rintro e w' ⟨rfl, rfl⟩
  go_wp2
  go_ret
  exact ⟨rfl, (Below.refl _ _).alloc (Nat.le_refl _) _⟩

theorem law_sum (A : Option Addr) (n c d : Nat) (l : List UInt8) (w : World) (hn : l.length = n) (hs : Sl w w.heap.size A (bys l)) :
    Calls Try.prog 3 #[.slice A n c, .int .u64 d] w fun e w' => e = .returned (.bool true) ∧ Below w.heap.size w w' := by
  have HN := hid hn
  clear hn
  by_cases hlen : 400 < n
  · go_enter Try.func3, Try.ntmps3
    go_wp2_with fail
    refine (awake_any _).mono ?_
    rintro e w1 ⟨rfl, hb⟩
    go_wp2
    go_ret
    exact ⟨rfl, hb⟩
  · go_enter Try.func3, Try.ntmps3
    go_wp2_with fail
    refine (awake_any _).mono ?_
    rintro e w1 ⟨rfl, hb⟩
    have hs1 := hs.below hb
    have hm : n ≤ maxLen := by unfold maxLen; omega
    have hz := hb.size
    go_wp2_with fail
    refine (sum_any A n c _ l _ HN.out hs1 hm).mono ?_
    rintro e w2 ⟨rfl, rfl⟩
    go_wp2_with fail
    refine (rsum_any A n c _ l _ HN.out hs1 hm).mono ?_
    rintro e w2 ⟨rfl, rfl⟩
    go_wp2_with fail
    refine (chain_any A n c _ d l _ HN.out hs1 hm hz).mono ?_
    rintro e w2 ⟨rfl, hb2⟩
    go_wp2_with fail
    refine (rchain_any A n c _ d l _ HN.out (hs1.below (hb2.mono hz)) (by omega) (Nat.le_trans hz hb2.size)).mono ?_
    rintro e w3 ⟨rfl, hb3⟩
    go_wp2
    go_ret
    exact ⟨rfl, (hb.trans (hb2.mono hz)).trans (hb3.mono (Nat.le_trans hz hb2.size))⟩
end Go.Proofs.Ytnjnlgpdkehdhaa
