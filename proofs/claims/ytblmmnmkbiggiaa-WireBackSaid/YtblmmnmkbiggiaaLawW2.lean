/-
  WireBack and WirePrefix, walked.
-/
import Derived.Test.YtblmmnmkbiggiaaLawW0
import Derived.Test.YtblmmnmkbiggiaaUse
import Derived.Test.YtblmmnmkbiggiaaMem2
namespace Go.Proofs.Ytblmmnmkbiggiaa
open Go.RowKit

theorem back_no (A A2 : Option Addr) (x n c n2 c2 : Nat) (w : World) (h : 300 < n ∨ 40 < n2) :
    Calls Try.prog 8 #[.int .u64 x, .slice A n c, .slice A2 n2 c2] w fun e w' => e = .returned (.bool true) ∧ Below w.heap.size w w' := by
  by_cases h1 : 300 < n
  · clear h
    go_enter Try.func8, Try.ntmps8
    go_wp2_with fail
    refine (awake_any _).mono ?_
    rintro e w1 ⟨rfl, hb1⟩
    go_wp2
    go_ret
    exact ⟨rfl, hb1⟩
  · have h2 : 40 < n2 := by omega
    clear h
    go_enter Try.func8, Try.ntmps8
    go_wp2_with fail
    refine (awake_any _).mono ?_
    rintro e w1 ⟨rfl, hb1⟩
    go_wp2
    go_ret
    exact ⟨rfl, hb1⟩

set_option maxHeartbeats 1000000 in
theorem back_yes (A A2 : Option Addr) (x n c n2 c2 : Nat) (l more : List UInt8) (w : World) (hn : l.length = n) (hs : Sl w w.heap.size A (bys l)) (h1 : n ≤ 300) (hx : x < 18446744073709551616)
    (hn2 : more.length = n2) (hs2 : Sl w w.heap.size A2 (bys more)) (h2 : n2 ≤ 40) :
    Calls Try.prog 8 #[.int .u64 x, .slice A n c, .slice A2 n2 c2] w fun e w' => e = .returned (.bool true) ∧ Below w.heap.size w w' := by
  have H := hid (put_any none 0 0 0 x [] w rfl (.inl rfl) (Nat.zero_le _) (by omega) hx)
  have HL := hid (enc_len10 x hx)
  have HU := hid (decU_enc x hx more)
  have HBB := hid (decB_encB l more (by omega))
  have HEL := hid (show (encB l).length ≤ 400 by
    unfold encB
    rw [List.length_append]
    have := enc_len10 l.length (by omega)
    omega)
  have HN := hid hn
  have HN2 := hid hn2
  have HS := hid hs
  have HS2 := hid hs2
  clear hn hn2 hs hs2 hx
  go_enter Try.func8, Try.ntmps8
  go_wp2_with fail
  refine H.out.mono ?_
  rintro e w1 ⟨A1, c1, rfl, ho1, hb1⟩
  simp only [List.nil_append, Nat.zero_add] at ho1 ⊢
  obtain ⟨p, hp⟩ : ∃ p, p = (enc x).length := ⟨_, rfl⟩
  rw [← hp] at ho1 ⊢
  have hp10 : p ≤ 10 := by have := HL.out; omega
  have HP := hid hp
  have HO1 := hid ho1
  have HB1 := hid hb1
  clear hp ho1 hb1
  go_wp2_with fail
  refine (putB_any none A 0 0 _ n c [] l w1 rfl (.inl rfl) (Nat.le_refl _) (by omega) HN.out (HS.out.go HB1.out) (by omega)).mono ?_
  rintro e w2 ⟨A2', c2', rfl, ho2, hb2⟩
  simp only [List.nil_append, Nat.zero_add] at ho2 ⊢
  obtain ⟨q, hq⟩ : ∃ q, q = (encB l).length := ⟨_, rfl⟩
  rw [← hq] at ho2 ⊢
  have hq400 : q ≤ 400 := by have := HEL.out; omega
  have HQ := hid hq
  have HO2 := hid ho2
  have HB2 := hid (below_go HB1.out hb2)
  have s1 := (Sl.of_own HO1.out).go hb2
  clear hq ho2 hb2
  go_wp2_with (at_builtin; refine wp_app8 rfl (.tmp 29) (.tmp 30) rfl w2.heap.size (some ⟨w2.heap.size, 0, none⟩) 0 0 [] rfl (own_empty w2 _ _ (Nat.le_refl _)) A1 w2.heap.size p c1 (enc x) rfl HP.out.symm (s1.below (below_new w2 _ _)) p (by omega) (by omega) (by simp) ?_)
  intro A3 c3 w3 ho3 hg3
  have hb3 := below_app (below_new w2 #[] 5) (own_empty w2 5 w2.heap.size (Nat.le_refl _)) (Nat.le_refl _) hg3
  have s23 := (HS2.out.go HB2.out).go hb3
  go_wp2_with (at_builtin; refine wp_app8 rfl (.tmp 31) (.tmp 32) rfl w2.heap.size A3 p c3 (enc x) rfl ho3 A2 w3.heap.size n2 c2 more rfl HN2.out s23 (p + n2) rfl (by omega) (by exact hb3.size) ?_)
  intro A4 c4 w4 ho4 hg4
  have hb4 := below_app hb3 ho3 (Nat.le_refl _) hg4
  have u := uint_any A4 (p + n2) c4 _ (enc x ++ more) w4 (by rw [List.length_append, HN2.out, ← HP.out]) (own_le ho4) (Sl.of_own ho4) (by omega)
  rw [HU.out, ← HP.out] at u
  have U := hid u
  have HB4 := hid (below_go HB2.out hb4)
  have HO24 := hid (own_below HO2.out hb4)
  clear ho3 hg3 hb3 s23 ho4 hg4 hb4 s1 u
  go_wp2_with fail
  refine U.out.mono ?_
  rintro e w5 ⟨rfl, rfl⟩
  have s2 := Sl.of_own HO24.out
  go_wp2_with (at_builtin; refine wp_app8 rfl (.tmp 39) (.tmp 40) rfl w4.heap.size (some ⟨w4.heap.size, 0, none⟩) 0 0 [] rfl (own_empty w4 _ _ (Nat.le_refl _)) A2' w4.heap.size q c2' (encB l) rfl HQ.out.symm (s2.below (below_new w4 _ _)) q (by omega) (by omega) (by simp) ?_)
  intro A6 c6 w6 ho6 hg6
  have hb6 := below_app (below_new w4 #[] 5) (own_empty w4 5 w4.heap.size (Nat.le_refl _)) (Nat.le_refl _) hg6
  have s26 := (HS2.out.go HB4.out).go hb6
  go_wp2_with (at_builtin; refine wp_app8 rfl (.tmp 41) (.tmp 42) rfl w4.heap.size A6 q c6 (encB l) rfl ho6 A2 w6.heap.size n2 c2 more rfl HN2.out s26 (q + n2) rfl (by omega) (by exact hb6.size) ?_)
  intro A7 c7 w7 ho7 hg7
  have hb7 := below_app hb6 ho6 (Nat.le_refl _) hg7
  have v := bytes_any A7 (q + n2) c7 _ (encB l ++ more) w7 (by rw [List.length_append, HN2.out, ← HQ.out]) (own_le ho7) (Sl.of_own ho7) (Nat.le_refl _) (by omega)
  rw [HBB.out, ← HQ.out] at v
  have V := hid v
  have HB7 := hid (below_go HB4.out hb7)
  clear ho6 hg6 hb6 s26 ho7 hg7 hb7 s2 v
  go_wp2_with fail
  refine V.out.mono ?_
  rintro e w8 ⟨A8, c8, rfl, ho8, hb8⟩
  have HB8 := hid (below_go HB7.out hb8)
  have HO8 := hid ho8
  clear ho8 hb8
  go_wp2_with fail
  refine (awake_any _).mono ?_
  rintro e w9 ⟨rfl, hb9⟩
  have HB9 := hid (below_go HB8.out hb9)
  have k1 := str_any ((Sl.of_own HO8.out).go hb9) (n := l.length) (c := c8) rfl
  have k2 := str_any (HS.out.go HB9.out) (n := n) (c := c) HN.out
  clear hb9
  go_wp2
  go_ret
  exact ⟨rfl, HB9.out⟩

theorem law_back (A A2 : Option Addr) (x n c n2 c2 : Nat) (l more : List UInt8) (w : World) (hn : l.length = n) (hs : Sl w w.heap.size A (bys l)) (hx : x < 18446744073709551616) (hn2 : more.length = n2) (hs2 : Sl w w.heap.size A2 (bys more)) :
    Calls Try.prog 8 #[.int .u64 x, .slice A n c, .slice A2 n2 c2] w fun e w' => e = .returned (.bool true) ∧ Below w.heap.size w w' := by
  by_cases h : 300 < n ∨ 40 < n2
  · exact back_no A A2 x n c n2 c2 w h
  · exact back_yes A A2 x n c n2 c2 l more w hn hs (by omega) hx hn2 hs2 (by omega)
end Go.Proofs.Ytblmmnmkbiggiaa
