/-
  The sanity check of the wire laws, and the comparison of a decoding with the definition: both return true.
-/
import Derived.Test.YtblmmnmkbiggiaaWireB
namespace Go.Proofs.Ytblmmnmkbiggiaa
open Go.RowKit

theorem enc300 : enc 300 = [172, 2] := by
  rw [enc_big (by decide), enc_small (by decide)]
  decide
theorem decU_a : decU [128, 0] = (0, 0, 3) := by decide
theorem decU_b : decU [128] = (0, 0, 2) := by decide

theorem str_any {w : World} {B : Nat} {A : Option Addr} {n c : Nat} {l : List UInt8} (h : Sl w B A (bys l)) (hn : l.length = n) :
    (convert 22 9 (.slice A n c)).run Try.prog w = .ok (.string (strOf l)) w :=
  run_str w 22 5 9 Try.underlying22 Try.underlying5 Try.underlying9 B A n c l hn h

theorem awake_any (w : World) : Calls Try.prog 10 #[] w fun e w' => e = .returned (.bool true) ∧ Below w.heap.size w w' := by
  have H := hid (put_any none 0 0 0 300 [] w rfl (.inl rfl) (Nat.zero_le _) (by omega) (by decide))
  go_enter Try.func10, Try.ntmps10
  go_wp2_with fail
  refine H.out.mono ?_
  rintro e w1 ⟨A1, c1, rfl, ho1, hb1⟩
  rw [enc300] at ho1 ⊢
  simp only [List.nil_append, List.length_cons, List.length_nil, Nat.zero_add, Nat.reduceAdd] at ho1 ⊢
  have u1 := uint_any (some ⟨w1.heap.size, 0, none⟩) 2 2 (w1.heap.size + 1) [128, 0] (w1.alloc (.cells #[.int .u8 128, .int .u8 0] 5)) rfl (by omega) (Sl.new w1 #[_, _] _ _) (by omega)
  rw [decU_a] at u1
  have U1 := hid u1
  clear u1
  have HB := hid hb1
  have HO := hid ho1
  clear hb1 ho1
  go_wp2_with fail
  refine U1.out.mono ?_
  rintro e w' ⟨rfl, rfl⟩
  have hal := ((Below.refl w1.heap.size w1).alloc (Nat.le_refl _) (.cells #[.int .u8 128, .int .u8 0] 5)).alloc (by simp) (.cells #[.int .u8 128] 5)
  have hn2 := Sl.new (w1.alloc (.cells #[.int .u8 128, .int .u8 0] 5)) #[.int .u8 128] 5 (0, 0)
  rw [World.size_alloc] at hn2
  have u2 := uint_any _ 1 1 _ [128] _ rfl (by omega) hn2 (by omega)
  rw [decU_b] at u2
  have U2 := hid u2
  have kx := str_any ((Sl.of_own HO.out).below hal) (n := 2) (c := c1) rfl
  have ks := strOf_toList [172, 2]
  have HA := hid hal
  clear u2 hn2 hal
  go_wp2_with fail
  refine U2.out.mono ?_
  rintro e w' ⟨rfl, rfl⟩
  go_wp2
  go_ret
  exact ⟨rfl, HB.out.trans (HA.out.mono HB.out.size)⟩

/-- The comparison with the definition returns true. -/
theorem same_any (A : Option Addr) (n c B : Nat) (l : List UInt8) (w : World) (hn : l.length = n) (hc : n ≤ c) (hs : Sl w B A (bys l)) (hB : B ≤ w.heap.size) (hm : n ≤ 17592186044416) :
    Calls Try.prog 15 #[.slice A n c] w fun e w' => e = .returned (.bool true) ∧ Below w.heap.size w w' := by
  have H1 := hid (uint_any A n c B l w hn hc hs (by omega))
  have H2 := hid (ruint_any A n c B l w hn hs (by omega))
  have H3 := hid (bytes_any A n c B l w hn hc hs hB (by omega))
  have HN := hid hn
  have HS := hid hs
  clear hn hs
  go_enter Try.func15, Try.ntmps15
  go_wp2_with fail
  refine H1.out.mono ?_
  rintro e w' ⟨rfl, rfl⟩
  go_wp2_with fail
  refine H2.out.mono ?_
  rintro e w' ⟨rfl, rfl⟩
  go_wp2_with fail
  refine H3.out.mono ?_
  rintro e w3 ⟨A3, c3, rfl, ho3, hb3⟩
  have hz3 := hb3.size
  go_wp2_with fail
  refine (rbytes_any A n c B l w3 HN.out hc (HS.out.below (hb3.mono hB)) (Nat.le_trans hB hz3) (by omega)).mono ?_
  rintro e w4 ⟨A4, c4, rfl, ho4, hb4⟩
  have k3 := str_any ((Sl.of_own ho3).below hb4) (n := (decB l).1.length) (c := c3) rfl
  have k4 := str_any (Sl.of_own ho4) (n := (decB l).1.length) (c := c4) rfl
  have HB := hid (hb3.trans (hb4.mono hz3))
  clear ho3 ho4 hb3 hb4
  go_wp2
  go_ret
  exact ⟨rfl, HB.out⟩
end Go.Proofs.Ytblmmnmkbiggiaa
