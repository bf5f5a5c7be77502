/-
  DigestPrefix, walked.
-/
import Derived.Test.YtnjnlgpdkehdhaaDigV
namespace Go.Proofs.Ytnjnlgpdkehdhaa
open Go.RowKit

theorem verif_own (ls : List (List UInt8)) : verif ls (dints ls) = (-1, 0) := by
  unfold verif
  rw [if_pos (dints_length ls).symm, vdiff_same]
theorem dints_take (ls : List (List UInt8)) (m : Nat) : dints (ls.take m) = (dints ls).take m := by simp [dints, digs_take]

set_option maxHeartbeats 1000000 in
theorem prefix_few (A : Option Addr) (n c u : Nat) (vs : List Value) (ls : List (List UInt8)) (w : World) (hn : ls.length = n) (hc : n ≤ c) (hs : Sl w w.heap.size A vs) (hr : RowsOf w w.heap.size vs ls) (hf : Few ls) (hu : u < 256) :
    Calls Try.prog 8 #[.slice A n c, .int .u8 u] w fun e w' => e = .returned (.bool true) ∧ Below w.heap.size w w' := by
  have H := hid (few_yes A n c _ vs ls w hn hs hr hf)
  have h12 : n ≤ 12 := by have := hf.1; omega
  have hsh := hf.short
  have HN := hid hn
  obtain ⟨m, hm⟩ : ∃ m, m = u % (n + 1) := ⟨_, rfl⟩
  have hmn : m ≤ n := by have := Nat.mod_lt u (show 0 < n + 1 by omega); omega
  have hM : (u : Int) % ((n : Int) + 1) = (m : Int) := by rw [hm]; simp
  have HD := hid (digests_any A n c _ vs ls w hn hs hr (Nat.le_refl _) hsh)
  clear hm hn
  go_enter Try.func8, Try.ntmps8
  go_wp2_with fail
  refine H.out.mono ?_
  rintro e w1 ⟨rfl, rfl⟩
  go_wp2_with fail
  refine HD.out.mono ?_
  rintro e w1 ⟨A1, c1, rfl, ho1, hb1⟩
  rw [dnums_dints] at ho1
  have hz1 := hb1.size
  have s1 := hs.below hb1
  have r1 := hr.below hb1
  have hsm : Short (ls.take m) := ⟨Nat.le_trans (List.length_take_le' _ _) hsh.1, fun r hr => hsh.2 r (List.mem_of_mem_take hr)⟩
  have HD2 := hid (digests_any A m c _ (vs.take m) (ls.take m) w1 (by rw [List.length_take, HN.out]; omega) (s1.take m) (r1.take m) hz1 hsm)
  have o1 := Sl.of_own ho1
  have hx : (dints ls).length = n := by rw [dints_length, HN.out]
  have HX := hid hx
  have HB1 := hid hb1
  have ho1 := hid ho1
  clear hb1 hx hs hr
  go_wp2_with fail
  refine HD2.out.mono ?_
  rintro e w2 ⟨A2, c2, rfl, ho2, hb2⟩
  rw [dnums_dints, dints_take] at ho2
  have hz2 := hb2.size
  have s2 := s1.below (hb2.mono hz1)
  have r2 := r1.below (hb2.mono hz1)
  have o12 := o1.below hb2
  have o2 := Sl.of_own ho2
  have HB2 := hid (HB1.out.trans (hb2.mono hz1))
  have hV := verify_any A A1 n c n c1 _ vs ls (dints ls) w2 HN.out (s2.mono (Nat.le_trans hz1 hz2)) (r2.mono (Nat.le_trans hz1 hz2)) (Nat.le_refl _) hsh HX.out (o12.mono hz2)
  rw [verif_own] at hV
  have HV := hid hV
  clear hV ho2 hb2 s1 r1 o1 s2 r2 HD2
  go_wp2_with fail
  refine HV.out.mono ?_
  rintro e w3 ⟨rfl, hb3⟩
  have hz3 := hb3.size
  have o13 := (o12.mono hz2).below hb3
  have o23 := o2.below hb3
  have HB3 := hid (HB2.out.trans (hb3.mono (Nat.le_trans hz1 hz2)))
  clear o12 o2 hb3 HV
  go_wp2_with fail
  refine (awake_any _).mono ?_
  rintro e w4 ⟨rfl, hb4⟩
  have hz4 := hb4.size
  have o14 := (((o13.mono hz3).below hb4).mono hz4).take m
  have o24 := (o23.mono hz3).below hb4
  have HS := hid (same_yes A1 A2 m c1 c2 _ _ ((dints ls).take m) w4 (by rw [List.length_take, HX.out]; omega) (by rw [nums_take]; exact o14) o24 (Nat.le_refl _) hz4 (by unfold maxLen; omega))
  have HB4 := hid (HB3.out.trans (hb4.mono (by omega)))
  clear o13 o23 hb4 o14 o24
  have hc1 := own_le ho1.out
  go_wp2_with fail
  refine HS.out.mono ?_
  rintro e w5 ⟨rfl, hb5⟩
  go_wp2
  go_ret
  exact ⟨rfl, HB4.out.trans (hb5.mono (by omega))⟩

theorem law_prefix (A : Option Addr) (n c u : Nat) (vs : List Value) (ls : List (List UInt8)) (w : World) (hn : ls.length = n) (hc : n ≤ c) (hs : Sl w w.heap.size A vs) (hr : RowsOf w w.heap.size vs ls) (hu : u < 256) :
    Calls Try.prog 8 #[.slice A n c, .int .u8 u] w fun e w' => e = .returned (.bool true) ∧ Below w.heap.size w w' := by
  by_cases hf : Few ls
  · exact prefix_few A n c u vs ls w hn hc hs hr hf hu
  · have H := hid (few_no A n c _ vs ls w hn hs hr hf)
    clear hn hs hr hf hc
    go_enter Try.func8, Try.ntmps8
    go_wp2_with fail
    refine H.out.mono ?_
    rintro e w1 ⟨rfl, rfl⟩
    go_wp2_with fail
    refine (awake_any _).mono ?_
    rintro e w1 ⟨rfl, hb1⟩
    go_wp2
    go_ret
    exact ⟨rfl, hb1⟩
end Go.Proofs.Ytnjnlgpdkehdhaa
