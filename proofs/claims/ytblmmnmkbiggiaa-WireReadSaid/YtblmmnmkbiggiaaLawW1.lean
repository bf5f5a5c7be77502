/-
  WireRead, walked.
-/
import Derived.Test.YtblmmnmkbiggiaaLawW0
import Derived.Test.YtblmmnmkbiggiaaUse
import Derived.Test.YtblmmnmkbiggiaaMem2
namespace Go.Proofs.Ytblmmnmkbiggiaa
open Go.RowKit

theorem read_no (A A2 : Option Addr) (n c x n2 c2 u : Nat) (w : World) (h : 200 < n ∨ 40 < n2) :
    Calls Try.prog 5 #[.slice A n c, .int .u64 x, .slice A2 n2 c2, .int .u8 u] w fun e w' => e = .returned (.bool true) ∧ Below w.heap.size w w' := by
  by_cases h1 : 200 < n
  · clear h
    go_enter Try.func5, Try.ntmps5
    go_wp2_with fail
    refine (awake_any _).mono ?_
    rintro e w1 ⟨rfl, hb1⟩
    go_wp2
    go_ret
    exact ⟨rfl, hb1⟩
  · have h2 : 40 < n2 := by omega
    clear h
    go_enter Try.func5, Try.ntmps5
    go_wp2_with fail
    refine (awake_any _).mono ?_
    rintro e w1 ⟨rfl, hb1⟩
    go_wp2
    go_ret
    exact ⟨rfl, hb1⟩

set_option maxHeartbeats 1000000 in
theorem read_yes (A A2 : Option Addr) (n c x n2 c2 u : Nat) (l more : List UInt8) (w : World) (hn : l.length = n) (hc : n ≤ c) (hs : Sl w w.heap.size A (bys l)) (h1 : n ≤ 200) (hx : x < 18446744073709551616)
    (hn2 : more.length = n2) (hs2 : Sl w w.heap.size A2 (bys more)) (h2 : n2 ≤ 40) (hu : u < 256) :
    Calls Try.prog 5 #[.slice A n c, .int .u64 x, .slice A2 n2 c2, .int .u8 u] w fun e w' => e = .returned (.bool true) ∧ Below w.heap.size w w' := by
  have H := hid (rput_any none 0 0 0 x [] w rfl (.inl rfl) (Nat.zero_le _) (by omega) hx)
  have HL := hid (enc_len10 x hx)
  have HN := hid hn
  have HN2 := hid hn2
  have HS := hid hs
  have HS2 := hid hs2
  clear hn hn2 hs hs2 hx
  go_enter Try.func5, Try.ntmps5
  go_wp2_with fail
  refine H.out.mono ?_
  rintro e w1 ⟨A1, c1, rfl, ho1, hb1⟩
  simp only [List.nil_append, Nat.zero_add] at ho1 ⊢
  obtain ⟨p, hp⟩ : ∃ p, p = (enc x).length := ⟨_, rfl⟩
  rw [← hp] at ho1 ⊢
  have hp10 : p ≤ 10 := by have := HL.out; omega
  obtain ⟨q, hq⟩ : ∃ q, q = u % (p + 1) := ⟨_, rfl⟩
  have hqp : q ≤ p := by have := Nat.mod_lt u (show 0 < p + 1 by omega); omega
  have hQ : (u : Int) % ((p : Int) + 1) = (q : Int) := by rw [hq]; simp
  have HP := hid hp
  have hc1 := own_le ho1
  have o1 := Sl.of_own ho1
  have HO1 := hid ho1
  have HB1 := hid hb1
  clear hp hq ho1 hb1
  go_wp2_with (at_builtin; refine wp_app8 rfl (.tmp 22) (.tmp 30) rfl w1.heap.size (some ⟨w1.heap.size, 0, none⟩) 0 0 [] rfl (own_empty w1 _ _ (Nat.le_refl _)) A1 w1.heap.size q c1 ((enc x).take q) rfl (by rw [List.length_take, ← HP.out]; omega) (by rw [bys_take]; exact (o1.below (below_new w1 _ _)).take q) q (by omega) (by omega) (by simp) ?_)
  intro A3 c3 w3 ho3 hg3
  have hb3 := below_app (below_new w1 #[] 5) (own_empty w1 5 w1.heap.size (Nat.le_refl _)) (Nat.le_refl _) hg3
  have s23 := (HS2.out.go HB1.out).go hb3
  go_wp2_with (at_builtin; refine wp_app8 rfl (.tmp 31) (.tmp 32) rfl w1.heap.size A3 q c3 ((enc x).take q) rfl ho3 A2 w3.heap.size n2 c2 more rfl HN2.out s23 (q + n2) rfl (by omega) (by exact hb3.size) ?_)
  intro A4 c4 w4 ho4 hg4
  have hb4 := below_app hb3 ho3 (Nat.le_refl _) hg4
  have HB4 := hid (below_go HB1.out hb4)
  have HO4 := hid ho4
  have HO14 := hid (own_below HO1.out hb4)
  clear ho3 hg3 hb3 s23 ho4 hg4 hb4 o1
  go_wp2_with fail
  refine (awake_any _).mono ?_
  rintro e w5 ⟨rfl, hb5⟩
  have HB5 := hid (below_go HB4.out hb5)
  have HO5 := hid (own_below HO4.out hb5)
  have HO15 := hid (own_below HO14.out hb5)
  clear hb5
  go_wp2_with fail
  refine (same_any A n c _ l _ HN.out hc (HS.out.go HB5.out) (Nat.le_refl _) (by omega)).mono ?_
  rintro e w6 ⟨rfl, hb6⟩
  have HB6 := hid (below_go HB5.out hb6)
  have HO6 := hid (own_below HO5.out hb6)
  have ho16 := own_below HO15.out hb6
  clear hb6
  have s26 := HS2.out.go HB6.out
  go_wp2_with (at_builtin; refine wp_app8g (by rfl) (.tmp 40) (.tmp 41) rfl w.heap.size A1 p c1 (enc x) rfl ho16 A2 w6.heap.size n2 c2 more rfl HN2.out s26 (p + n2) rfl (by omega) (by exact HB6.out.size) ?_)
  intro A7 c7 w7 ho7 hg7
  have hb7 := below_app HB6.out ho16 (Nat.le_refl _) hg7
  have HB7 := hid hb7
  have s7 := Sl.of_own ho7
  have hc7 := own_le ho7
  have HO7 := hid (HO6.out.kept hg7 (own_apart HO6.out HO1.out (Nat.le_refl _)))
  clear s26 ho16 ho7 hg7 hb7
  go_wp2_with fail
  refine (same_any A7 (p + n2) c7 _ (enc x ++ more) _ (by rw [List.length_append, HN2.out, ← HP.out]) hc7 s7 (Nat.le_refl _) (by omega)).mono ?_
  rintro e w8 ⟨rfl, hb8⟩
  have HB8 := hid (below_go HB7.out hb8)
  have ho8 := own_below HO7.out hb8
  have s8 := Sl.of_own ho8
  have hc8 := own_le ho8
  clear hb8 ho8 s7
  go_wp2_with fail
  refine (same_any A4 (q + n2) c4 _ ((enc x).take q ++ more) _ (by rw [List.length_append, List.length_take, HN2.out, ← HP.out]; omega) hc8 s8 (Nat.le_refl _) (by omega)).mono ?_
  rintro e w9 ⟨rfl, hb9⟩
  go_wp2
  go_ret
  exact ⟨rfl, below_go HB8.out hb9⟩

theorem law_read (A A2 : Option Addr) (n c x n2 c2 u : Nat) (l more : List UInt8) (w : World) (hn : l.length = n) (hc : n ≤ c) (hs : Sl w w.heap.size A (bys l)) (hx : x < 18446744073709551616) (hn2 : more.length = n2) (hs2 : Sl w w.heap.size A2 (bys more)) (hu : u < 256) :
    Calls Try.prog 5 #[.slice A n c, .int .u64 x, .slice A2 n2 c2, .int .u8 u] w fun e w' => e = .returned (.bool true) ∧ Below w.heap.size w w' := by
  by_cases h : 200 < n ∨ 40 < n2
  · exact read_no A A2 n c x n2 c2 u w h
  · exact read_yes A A2 n c x n2 c2 u l more w hn hc hs (by omega) hx hn2 hs2 (by omega) hu
end Go.Proofs.Ytblmmnmkbiggiaa
